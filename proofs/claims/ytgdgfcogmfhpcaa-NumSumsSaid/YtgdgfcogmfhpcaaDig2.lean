/- What the reference's Of and Under answer. Each theorem's premises are its conditions. -/
import Derived.Test.YtgdgfcogmfhpcaaDig1
import Derived.Deep.QuietTactic
import Derived.BigQuiet
import Derived.Deep.RegionHeld3
import Derived.Deep.AppendLies
namespace Go.Proofs.Ytgdgfcogmfhpcaa
open Go.RowKit Go.Deep

theorem own_below {w w' : World} {base : Nat} {e : TypeId} {size : Nat} {v : Value} {n : Nat} {xs : List Value} (h : w.ownsRow base e size v n xs) (hb : Below w.heap.size w w') : w'.ownsRow base e size v n xs := by
  obtain ⟨h1, h2⟩ := h
  refine ⟨h1, ?_⟩
  rcases h2 with h2 | ⟨g, cap, cur, hv, hg, hh, r⟩
  · exact .inl h2
  · refine .inr ⟨g, cap, cur, hv, hg, ?_, r⟩
    have hlt : g < w.heap.size := (Array.getElem?_eq_some_iff.1 hh).1
    rw [hb.block g hlt]; exact hh
theorem own_form {w : World} {base : Nat} {e : TypeId} {n : Nat} {v : Value} {xs : List Value} (h : w.ownsRow base e 1 v n xs) (hn : 0 < n) :
    ∃ g cap, v = .slice (some ⟨g, 0, none⟩) n cap ∧ base ≤ g ∧ g < w.heap.size ∧ ∀ i, i < n → w.cell? ⟨g, i, none⟩ = xs[i]? := by
  have h0 := h
  rcases h.2 with ⟨_, h2⟩ | ⟨g, cap, cur, rfl, hg, hh, r⟩
  · omega
  · exact ⟨g, cap, rfl, hg, (Array.getElem?_eq_some_iff.1 hh).1, fun i hi => h0.cellAt i (by omega)⟩
theorem digCells_get (n k i : Nat) (h : i < k) : (digCells n k)[i]? = some (.int .i64 ((Dig.dgt n i : Nat) : Int)) := by
  unfold digCells; simp [h]
theorem digCells_length (n k : Nat) : (digCells n k).length = k := by unfold digCells; simp

/-- eight digits, then zeros. -/
def of8 (high low i : Nat) : Nat := if i < 8 then Dig.two high low i else 0
theorem of8_le (high low i : Nat) : of8 high low i ≤ 4294967296 := by
  unfold of8 Dig.two
  have := Dig.dgt_lt low i
  have := Dig.dgt_lt high (i - 4)
  split
  · split <;> omega
  · omega
theorem of8_val (high low : Nat) (hh : high < 18446744073709551616) (hl : low < 18446744073709551616) : Dig.V (of8 high low) 12 % 65536 ^ 12 = high * 18446744073709551616 + low := by
  have e : Dig.V (of8 high low) 12 = Dig.V (of8 high low) 8 := Dig.V_more 12 (by omega) (fun i h1 _ => if_neg (by omega))
  have e2 : Dig.V (of8 high low) 8 = Dig.V (Dig.two high low) 8 := Dig.V_congr 8 (fun i hi => if_pos hi)
  rw [e, e2, Dig.V_two high low hh hl, Nat.mod_eq_of_lt]
  have : (65536 : Nat) ^ 12 = 18446744073709551616 * 340282366920938463463374607431768211456 := by decide
  rw [this]; omega

set_option maxHeartbeats 800000 in
theorem of_any (high low : Nat) (hh : high < 18446744073709551616) (hl : low < 18446744073709551616) (w : World) :
    Calls Try.prog 14 #[.int .u64 high, .int .u64 low] w (GivesNum (high * 18446744073709551616 + low) w) := by
  obtain ⟨i0, hi, hz0, hz1, hz2⟩ := info_parts infoInt
  go_enter Try.func14, Try.ntmps14
  go_wp2_with fail
  refine (digits_any low hl _).mono ?_
  rintro e w1 ⟨v1, rfl, hown1, hb1⟩
  obtain ⟨g1, cap1, rfl, hg1, hl1, hc1⟩ := own_form hown1 (by omega)
  go_wp2_with fail
  refine (digits_any high hh _).mono ?_
  rintro e w2 ⟨v2, rfl, hown2, hb2⟩
  obtain ⟨g2, cap2, rfl, hg2, hl2, hc2⟩ := own_form hown2 (by omega)
  have hown1' := own_below hown1 hb2
  have hs := hb1.size
  have hs2 := hb2.size
  have HN := Lib.hid (hown2.cells (g := g2) rfl)
  have H1 : Hid (∀ u ∈ digCells high 4, u.oneCell' = true) := by
    intro u hu
    unfold digCells at hu
    simp only [List.mem_map] at hu
    obtain ⟨_, _, rfl⟩ := hu
    rfl
  have HO := Lib.hid hown1'
  have HL : Hid ((digCells high 4).length = 4 * 1) := by show _ = _; rw [digCells_length]
  clear hc1 hc2 hown1 hown2 hown1'
  go_wp2_with (at_builtin; (refine wpList_append_own _ rfl _ _ 27 rfl w.heap.size 3 i0 (.int .i64 0) 1 8 Try.underlying27 hi hz0 hz1 hz2 rfl (by decide) _ _ _ rfl HO.out ⟨g2, 0, none⟩ 4 cap2 (digCells high 4) rfl HL.out HN.out H1.out (by unfold maxLen; omega) (by omega) (by omega) ?_; intro v' w3 hown' hgrow _))
  obtain ⟨g3, cap3, rfl, _, hl3, hc3⟩ := own_form hown' (by omega)
  have hb3 : Below w.heap.size w w3 := (hb1.trans (hb2.mono hs)).grown hgrow (by omega) (fun k hk => by cases hk; exact hg1)
  have hcell : ∀ i, i < 8 → w3.cell? ⟨g3, i, none⟩ = some (.int .i64 ((of8 high low i : Nat) : Int)) := fun i hi => by
    rw [hc3 i hi]
    show (digCells low 4 ++ digCells high 4)[i]? = _
    unfold of8 Dig.two
    rw [if_pos hi]
    by_cases h4 : i < 4
    · rw [if_pos h4, List.getElem?_append_left (by rw [digCells_length]; exact h4), digCells_get _ _ _ h4]
    · rw [if_neg h4, List.getElem?_append_right (by rw [digCells_length]; omega), digCells_length, digCells_get _ _ _ (by omega)]
  refine (carried_any g3 8 cap3 (of8 high low) (of8_le high low) (fun i h => if_neg (by omega)) w3 hl3 hcell).mono ?_
  rintro e w4 ⟨v4, rfl, h4, hb4⟩
  rw [of8_val high low hh hl] at h4
  clear hown' hgrow hc3 hcell
  go_wp2
  go_ret
  exact ⟨_, rfl, h4, bel_end hb3 hb4⟩

theorem V_eq_of {f g : Nat → Nat} {k : Nat} (h : ∀ i, i < k → f i = g i) : Dig.V f k = Dig.V g k := Dig.V_congr k h

def UnderRel (f g : Nat → Nat) (w : World) (i : Value) (wr : World) : Prop :=
  ∃ k : Nat, k ≤ 12 ∧ i = .int .i64 ((k : Int) - 1) ∧ (∀ j, k ≤ j → j < 12 → f j = g j) ∧ ∃ n, wr = w.drewN n

theorem under_decide {f g : Nat → Nat} {m A B : Nat} (hf : ∀ i, i < 12 → f i < 65536) (hg : ∀ i, i < 12 → g i < 65536) (hm : m < 12) (he : ∀ j, m + 1 ≤ j → j < 12 → f j = g j) (hne : ¬ f m = g m) (hA : Dig.V f 12 = A) (hB : Dig.V g 12 = B) :
    decide (f m < g m) = decide (A < B) := by
  subst hA hB
  rcases Nat.lt_or_ge (f m) (g m) with h | h
  · have := Dig.V_lt_of (fun j hj => hf j (by omega)) h 12 hm (fun j a b => he j a b)
    simp [h, this]
  · have := Dig.V_lt_of (fun j hj => hg j (by omega)) (show g m < f m by omega) 12 hm (fun j a b => (he j a b).symm)
    have h1 : ¬ f m < g m := by omega
    have h2 : ¬ Dig.V f 12 < Dig.V g 12 := by omega
    simp [h1, h2]

theorem draws3 {w : World} {n a b : Nat} : ∃ k, ((w.drewN n).drewN a).drewN b = w.drewN k := ⟨n + (a + b), by rw [World.drewN_drewN, World.drewN_drewN]⟩

/-- A call that gives v, and draws. -/
def Draws (v : Value) (w : World) (e : Ending) (w' : World) : Prop := e = .returned v ∧ ∃ n, w' = w.drewN n

set_option maxHeartbeats 800000 in
theorem under_any (v1 v2 : Value) (A B : Nat) (w : World) (h1 : IsNum w v1 A) (h2 : IsNum w v2 B) :
    Calls Try.prog 15 #[v1, v2] w (Draws (.bool (decide (A < B))) w) := by
  obtain ⟨f, ⟨b1, c1, rfl, hl1, hc1⟩, hf, hA⟩ := h1
  obtain ⟨g, ⟨b2, c2, rfl, hl2, hc2⟩, hg, hB⟩ := h2
  have HC1 := Lib.hid hc1
  have HC2 := Lib.hid hc2
  have HA := Lib.hid hA
  have HB := Lib.hid hB
  have HF := Lib.hid hf
  have HG := Lib.hid hg
  clear hc1 hc2 hA hB hf hg
  go_enter Try.func15, Try.ntmps15
  go_wp2
  go_loopw [5] (fun i wr => UnderRel f g w i wr) (fun i _ => (intOf i + 1).toNat)
  case atStart => exact ⟨12, by omega, rfl, fun j h1 h2 => by omega, 0, rfl⟩
  case round =>
    obtain ⟨k, hk, rfl, he, n, rfl⟩ := hrel
    have HE := Lib.hid he
    clear he
    by_cases h0 : k = 0
    · subst h0
      go_wp2
      go_ret
      refine ⟨?_, _, rfl⟩
      have : A = B := by rw [← HA.out, ← HB.out]; exact V_eq_of (fun i hi => HE.out i (by omega) hi)
      rw [this]; simp
    · obtain ⟨m, rfl⟩ : ∃ m, k = m + 1 := ⟨k - 1, by omega⟩
      have e1 : (((m + 1 : Nat) : Int) - 1) = (m : Int) := by omega
      have x1 : w.cell? ⟨b1, m, none⟩ = some (.int .i64 ((f m : Nat) : Int)) := HC1.out m (by omega)
      have x2 : w.cell? ⟨b2, m, none⟩ = some (.int .i64 ((g m : Nat) : Int)) := HC2.out m (by omega)
      have i1 : (m : Int) < 12 := by omega
      have i0 : (0 : Int) ≤ (m : Int) := by omega
      rw [e1]
      clear h0 e1
      by_cases hfg : f m = g m
      · have t1 : (((f m : Nat) : Int) != ((g m : Nat) : Int)) = false := by rw [hfg]; simp
        have HE2 : Hid (∀ j, m ≤ j → j < 12 → f j = g j) := fun j h1 h2 => by
          by_cases e : j = m
          · subst e; exact hfg
          · exact HE.out j (by omega) h2
        clear hfg
        generalize f m = x at *
        generalize g m = y at *
        go_wp2
        go_quiet (fail)
        go_wp2
        exact ⟨⟨m, by omega, rfl, HE2.out, _, rfl⟩, by simp [intOf]⟩
      · have t1 : (((f m : Nat) : Int) != ((g m : Nat) : Int)) = true := by simp; omega
        have HD := Lib.hid (under_decide HF.out HG.out (by omega) HE.out hfg HA.out HB.out)
        clear hfg
        generalize f m = x at *
        generalize g m = y at *
        go_wp2
        go_quiet (fail)
        go_wp2
        go_quiet (fail)
        go_wp2
        go_ret
        exact ⟨by rw [← HD.out]; simp, draws3⟩


/-! ### the sum -/
theorem plus_val {f g : Nat → Nat} {A B : Nat} (hA : Dig.V f 12 = A) (hB : Dig.V g 12 = B) : Dig.V (fun i => if i < 12 then f i + g i else 0) 12 % 65536 ^ 12 = (A + B) % 65536 ^ 12 := by
  rw [Dig.V_congr (f := fun i => if i < 12 then f i + g i else 0) (g := fun i => f i + g i) 12 (fun i hi => if_pos hi), Dig.V_add, hA, hB]

def sumCells (f g : Nat → Nat) (k : Nat) : List Value := (List.range k).map fun i => .int .i64 ((f i + g i : Nat) : Int)
theorem sumCells_succ (f g : Nat → Nat) (k : Nat) : sumCells f g (k + 1) = sumCells f g k ++ [.int .i64 ((f k + g k : Nat) : Int)] := by
  unfold sumCells; rw [List.range_succ, List.map_append]; rfl
theorem sumCells_get (f g : Nat → Nat) (n i : Nat) (h : i < n) : (sumCells f g n)[i]? = some (.int .i64 ((f i + g i : Nat) : Int)) := by
  unfold sumCells; simp [h]

def PlusRel (f g : Nat → Nat) (B : Nat) (w : World) (v i : Value) (wr : World) : Prop :=
  ∃ k : Nat, k ≤ 12 ∧ i = .int .i64 k ∧ wr.ownsRow B 3 1 v k (sumCells f g k) ∧ Below B w wr

set_option maxHeartbeats 1600000 in
theorem plus_any (v1 v2 : Value) (A B : Nat) (w : World) (h1 : IsNum w v1 A) (h2 : IsNum w v2 B) :
    Calls Try.prog 16 #[v1, v2] w (GivesNum ((A + B) % 65536 ^ 12) w) := by
  obtain ⟨f, ⟨b1, c1, rfl, hl1, hc1⟩, hf, hA⟩ := h1
  obtain ⟨g, ⟨b2, c2, rfl, hl2, hc2⟩, hg, hB⟩ := h2
  obtain ⟨i0, hi, hz0, hz1, hz2⟩ := info_parts infoInt
  have HV := Lib.hid (plus_val hA hB)
  have HC1 := Lib.hid hc1
  have HC2 := Lib.hid hc2
  have HF := Lib.hid hf
  have HG := Lib.hid hg
  clear hc1 hc2 hA hB hf hg
  go_enter Try.func16, Try.ntmps16
  go_wp2
  go_loopw [5, 6] (fun v i wr => PlusRel f g w.heap.size w v i wr) (fun _ i _ => 12 - (intOf i).toNat)
  case atStart => exact ⟨0, by omega, rfl, World.ownsRow_nil _ _ _ _, Below.refl _ _⟩
  case round =>
    obtain ⟨k, hk, rfl, hown, hb⟩ := hrel
    have hs := hb.size
    by_cases hlt : k < 12
    · have x1 : wr.cell? ⟨b1, k, none⟩ = some (.int .i64 ((f k : Nat) : Int)) := by rw [hb.cell (p := ⟨b1, k, none⟩) hl1]; exact HC1.out k hlt
      have x2 : wr.cell? ⟨b2, k, none⟩ = some (.int .i64 ((g k : Nat) : Int)) := by rw [hb.cell (p := ⟨b2, k, none⟩) hl2]; exact HC2.out k hlt
      have y1 := HF.out k hlt
      have y2 := HG.out k hlt
      have i1 : (k : Int) < 12 := by omega
      have i0' : (0 : Int) ≤ (k : Int) := by omega
      have HS : Hid (sumCells f g (k + 1) = sumCells f g k ++ [.int .i64 ((f k : Int) + (g k : Int))]) := by show _ = _; rw [sumCells_succ, Int.natCast_add]
      have e1 : IntKind.i64.wrap ((f k : Int) + (g k : Int)) = (f k : Int) + (g k : Int) := by rw [IntKind.wrap_i64]; omega
      generalize f k = x at *
      generalize g k = y at *
      have ak1 := fun h => Nat.not_le.2 hl1 (own_block hown b1 h)
      have ak2 := fun h => Nat.not_le.2 hl2 (own_block hown b2 h)
      have l1 : b1 < wr.heap.size := by omega
      have l2 : b2 < wr.heap.size := by omega
      go_wp2
      go_region_held3 (fun w' => w'.cell? ⟨b1, k, none⟩ = some (.int .i64 ((x : Nat) : Int)) ∧ w'.cell? ⟨b2, k, none⟩ = some (.int .i64 ((y : Nat) : Int)))
        (first
          | go_keep
          | (go_split_ands
             refine ⟨?_, ?_⟩
             · (rw [hgrow.cell_far _ (by simp; omega) (Ne.symm ak1)]; assumption)
             · (rw [hgrow.cell_far _ (by simp; omega) (Ne.symm ak2)]; assumption)))
        ((refine step_append_lies _ (by rfl) _ _ _ (by rfl) w.heap.size 3 i0 _ 1 8 Try.underlying27 hi hz0 hz1 hz2 rfl (by omega) _ k (sumCells f g k) (by rfl) ((hown.alloc _).drew)
            ⟨wr.heap.size, 0, none⟩ 1 1 [.int .i64 ((x : Int) + (y : Int))] (by rfl) (by rfl) (World.news_of_block (cs := #[.int .i64 ((x : Int) + (y : Int))]) (t := 3) (fr := (0, 0)) (heap_alloc_new wr _)) (by simp [Value.oneCell'])
            (by omega) (by unfold maxLen; omega) (by omega) (by simp; omega) (wr.heap.size + 1) (by simp) ?_; intro gg cap w1 hown1 hgrow hat hlt1))
      have HO : Hid (w1.ownsRow w.heap.size 3 1 (.slice (some ⟨gg, 0, none⟩) (k + 1) cap) (k + 1) (sumCells f g (k + 1))) := by show World.ownsRow _ _ _ _ _ _ _; rw [HS.out]; exact hown1
      have HB2 := Lib.hid ((hb.alloc hs _).drew.grown hgrow (by simp; omega) (own_block hown))
      clear hown1 hown hgrow
      go_wp2
      exact ⟨⟨k + 1, by omega, by go_num, HO.out, HB2.out⟩, by simp [intOf]; omega⟩
    · obtain rfl : k = 12 := by omega
      obtain ⟨g3, cap3, rfl, _, hl3, hc3⟩ := own_form hown (by omega)
      have hcell : ∀ i, i < 12 → wr.cell? ⟨g3, i, none⟩ = some (.int .i64 (((if i < 12 then f i + g i else 0 : Nat) : Nat) : Int)) := fun i hi => by
        rw [hc3 i hi, sumCells_get _ _ _ _ hi, if_pos hi]
      have HB1 : ∀ i, (if i < 12 then f i + g i else 0) ≤ 4294967296 := fun i => by
        by_cases h : i < 12
        · rw [if_pos h]; have := HF.out i h; have := HG.out i h; omega
        · rw [if_neg h]; omega
      have HCC := Lib.hid (carried_any g3 12 cap3 (fun i => if i < 12 then f i + g i else 0) HB1 (fun i h => if_neg (by omega)) wr hl3 hcell)
      rw [HV.out] at HCC
      clear hc3 hcell hown HB1
      go_wp2_with (go_at_call 33; refine HCC.out.mono ?_; rintro e w4 ⟨v4, rfl, h4, hb4⟩)
      go_ret
      exact ⟨_, rfl, h4, bel_end hb hb4⟩

end Go.Proofs.Ytgdgfcogmfhpcaa
