/- A slice of slices of charges: how it comes in; what the law's few and made answer. Each theorem's premises are its conditions. -/
import Derived.Test.YtfpifaccjfgfkaaTraceRefD
import Derived.Test.YtfpifaccjfgfkaaTraceMade
namespace Go.Proofs.Ytfpifaccjfgfkaa
open Go.ChangeShapes Go.WideShapes Go.ChangeAt Go.RowKit Go.Deep Go.Joins
attribute [local go_sem] Oper.semAt_some

abbrev LV := Value × List Chg
def lv0 : LV := (.slice none 0 0, [])
/-- v is a slice of the slices ls. -/
def LRow (w : World) (v : Value) (ls : List LV) : Prop :=
  (∃ a cap, v = .slice a 0 cap ∧ ls = []) ∨ ∃ b off cap, v = .slice (some ⟨b, off, none⟩) ls.length cap ∧ b < w.heap.size ∧ 0 < ls.length ∧ ∀ j, j < ls.length → w.cell? ⟨b, off + j, none⟩ = some (ls.getD j lv0).1 ∧ ChgRow w (ls.getD j lv0).1 (ls.getD j lv0).2
theorem LRow.below {w w' : World} {v : Value} {ls : List LV} (h : LRow w v ls) (hb : Below w.heap.size w w') : LRow w' v ls := by
  rcases h with h | ⟨b, off, cap, rfl, hlt, h0, hc⟩
  · exact .inl h
  · exact .inr ⟨b, off, cap, rfl, Nat.lt_of_lt_of_le hlt hb.size, h0, fun j hj => ⟨(hb.cell (p := ⟨b, off + j, none⟩) hlt).trans (hc j hj).1, (hc j hj).2.below hb⟩⟩
theorem LRow.shape {w : World} {v : Value} {ls : List LV} (h : LRow w v ls) : ∃ a cap, v = .slice a ls.length cap := by
  rcases h with ⟨a, cap, rfl, rfl⟩ | ⟨b, off, cap, rfl, _⟩
  · exact ⟨a, cap, rfl⟩
  · exact ⟨_, cap, rfl⟩
section
variable {H : Type} {enc : TypeId × Value → H} {P : Program} {w : World} {base : Nat} {spare : Nat → Bool} {held : Bool}
theorem open_inner {t e : TypeId} {fs : Array Field} {fuel : Nat} {v : Value} {x : DataW H × List MemPlace} (ht : P.underlying t = some (.slice e)) (he : P.underlying e = some (.struct fs)) (ce : P.cellsOf e = 6)
    (hfs : ∀ j, j < 6 → ∃ f, fs[j]? = some f ∧ f.offset = j ∧ P.cellsOf f.type = 1 ∧ P.underlying f.type = some (.int .i64))
    (h : DataW.trod enc P w base spare held fuel t [v] = some x) : ∃ cs, ChgRow w v cs := by
  rcases open_slice ht h with ⟨hcs, _⟩ | ⟨a, len, cap, m, n, D, Pl, hcs, hb, hl, hm, hmm, _, hx⟩
  · simp at hcs
    subst hcs
    exact ⟨[], .inl ⟨_, _, rfl, rfl⟩⟩
  simp at hcs
  subst hcs
  by_cases h0 : len = 0
  · subst h0
    exact ⟨[], .inl ⟨_, _, rfl, rfl⟩⟩
  have each : ∀ i, i < len → ∃ Z : Nat → Int, ∀ j, j < 6 → w.cell? (a.add (i * 6 + j)) = some (.int .i64 (Z j)) := by
    intro i hi
    obtain ⟨cs, h1, h2⟩ := hx i (by rw [hmm]; split <;> omega)
    rw [ce] at h1
    obtain ⟨_, hlen, hcell⟩ := World.cells?_some h1
    obtain ⟨xs, q, _, _, _, hxl, hg⟩ := DataW.trod_struct he h2
    refine choose_lt (α := Int) (p := fun j z => w.cell? (a.add (i * 6 + j)) = some (.int .i64 z)) fun j hj => ?_
    obtain ⟨f, hfj, ho, hc, hu⟩ := hfs j hj
    have h3 := hg j f hfj
    rw [ho, hc] at h3
    have hj' : j < xs.length := by
      have := (Array.getElem?_eq_some_iff.1 hfj).1
      omega
    rw [List.getElem?_eq_getElem hj'] at h3
    obtain ⟨z, h4, _, h5⟩ := DataW.trod_int hu h3
    have h6 := hcell j hj
    rw [add_add] at h6
    have h7 : cs[j]? = some (.int .i64 z) := by
      have := congrArg (fun l => l[0]?) h4
      simpa [List.getElem?_take, List.getElem?_drop] using this
    exact ⟨z, h6.trans h7⟩
  obtain ⟨Z, hZ⟩ := choose_lt (α := Nat → Int) (p := fun i Z => ∀ j, j < 6 → w.cell? (a.add (i * 6 + j)) = some (.int .i64 (Z j))) each
  have hc0 := hZ 0 (by omega) 0 (by omega)
  have h00 : a.add (0 * 6 + 0) = a := by simp [Addr.add]
  rw [h00] at hc0
  have hsp : a.spot = none := World.cell?_spot hc0
  obtain ⟨b, off, spot⟩ := a
  simp only at hsp
  subst hsp
  refine ⟨(List.range len).map fun i => ⟨Z i 0, Z i 1, Z i 2, Z i 3, Z i 4, Z i 5⟩, .inr ⟨b, off, cap, by simp, cell_lt hc0, by simp; omega, fun j hj => ?_⟩⟩
  have hj' : j < len := by simpa using hj
  have e : ((List.range len).map fun i => (⟨Z i 0, Z i 1, Z i 2, Z i 3, Z i 4, Z i 5⟩ : Chg)).getD j c0 = ⟨Z j 0, Z j 1, Z j 2, Z j 3, Z j 4, Z j 5⟩ := by simp [List.getD, hj']
  rw [e]
  refine chg_of fun i hi => ?_
  have h1 := hZ j hj' i hi
  have e1 : (Addr.mk b off none).add (j * 6 + i) = ⟨b, off + (j * 6 + i), none⟩ := by unfold Addr.add; split <;> simp_all
  rw [e1, ← Nat.add_assoc] at h1
  match i, hi with
  | 0, _ => exact h1
  | 1, _ => exact h1
  | 2, _ => exact h1
  | 3, _ => exact h1
  | 4, _ => exact h1
  | 5, _ => exact h1
theorem open_lists {r : Reach} {b0 : Nat} {t s e : TypeId} {fs : Array Field} {v : Value} {d : DataW H} {p : List MemPlace} (ht : P.underlying t = some (.slice s)) (hs : P.underlying s = some (.slice e)) (cs1 : P.cellsOf s = 1) (he : P.underlying e = some (.struct fs)) (ce : P.cellsOf e = 6)
    (hfs : ∀ j, j < 6 → ∃ f, fs[j]? = some f ∧ f.offset = j ∧ P.cellsOf f.type = 1 ∧ P.underlying f.type = some (.int .i64))
    (hv : Value.okWide P w r b0 t v) (h : DataW.Trod enc P w base spare held t v d p) : ∃ ls, LRow w v ls ∧ ls.length ≤ maxLen := by
  obtain ⟨a0, len0, cap0, rfl⟩ := okWide_slice ht hv
  obtain ⟨fuel, hf⟩ := h
  rcases open_slice1 ht cs1 hf with ⟨hcs, _⟩ | ⟨a, len, cap, m, n, V, D, Pl, hcs, hb, hl, hm, hmm, _, hx⟩
  · simp [Value.cells] at hcs
    obtain ⟨rfl, rfl, rfl⟩ := hcs
    exact ⟨[], .inl ⟨_, _, rfl, rfl⟩, Nat.zero_le _⟩
  simp [Value.cells] at hcs
  obtain ⟨rfl, rfl, rfl⟩ := hcs
  by_cases h0 : len0 = 0
  · subst h0
    exact ⟨[], .inl ⟨_, _, rfl, rfl⟩, Nat.zero_le _⟩
  have each : ∀ i, i < len0 → ∃ cs : List Chg, ChgRow w (V i) cs := fun i hi => open_inner hs he ce hfs (hx i (by rw [hmm]; split <;> omega)).2
  obtain ⟨C, hC⟩ := choose_lt (α := List Chg) (p := fun i cs => ChgRow w (V i) cs) each
  have hc0 := (hx 0 (by rw [hmm]; split <;> omega)).1
  have h00 : a.add 0 = a := by simp [Addr.add]
  rw [h00] at hc0
  have hsp : a.spot = none := World.cell?_spot hc0
  obtain ⟨b, off, spot⟩ := a
  simp only at hsp
  subst hsp
  refine ⟨(List.range len0).map fun i => (V i, C i), .inr ⟨b, off, cap0, by simp, cell_lt hc0, by simp; omega, fun j hj => ?_⟩, by simp; omega⟩
  have hj' : j < len0 := by simpa using hj
  have e : ((List.range len0).map fun i => ((V i, C i) : LV)).getD j lv0 = (V j, C j) := by simp [List.getD, hj']
  rw [e]
  refine ⟨?_, hC j hj'⟩
  have h1 := (hx j (by rw [hmm]; split <;> omega)).1
  have e1 : (Addr.mk b off none).add j = ⟨b, off + j, none⟩ := by unfold Addr.add; split <;> simp_all
  rw [e1] at h1
  exact h1
end

/-- are they few, and short? -/
def fewB (ls : List LV) : Bool := decide (∀ j, j < ls.length → (ls.getD j lv0).2.length ≤ 20) && decide (ls.length ≤ 20)
set_option maxRecDepth 100000 in
set_option maxHeartbeats 2000000 in
theorem few_some (b off cap : Nat) (ls : List LV) (w : World) (hb : b < w.heap.size) (hm : ls.length ≤ maxLen) (hc : ∀ j, j < ls.length → w.cell? ⟨b, off + j, none⟩ = some (ls.getD j lv0).1 ∧ ChgRow w (ls.getD j lv0).1 (ls.getD j lv0).2) :
    Calls Try.prog 8 #[.slice (some ⟨b, off, none⟩) ls.length cap] w fun e w' => e = .returned (.bool (fewB ls)) ∧ w' = w := by
  have HC := Lib.hid hc
  unfold maxLen at hm
  clear hc
  go_enter Try.func8, Try.ntmps8
  go_wp2_with fail
  go_loopw [3] (fun i wr => ∃ k : Nat, k ≤ ls.length ∧ i = .int .i64 k ∧ (∀ j, j < k → (ls.getD j lv0).2.length ≤ 20) ∧ wr = w) (fun i _ => ls.length - (intOf i).toNat)
  case atStart => exact ⟨0, Nat.zero_le _, rfl, fun j h => absurd h (by omega), rfl⟩
  case round =>
    obtain ⟨k, hk, rfl, hall, rfl⟩ := hrel
    have HA := Lib.hid hall
    clear hall
    by_cases hlt : k < ls.length
    · obtain ⟨q0, hr⟩ := HC.out k hlt
      have hlt' : (k : Int) < (ls.length : Int) := by omega
      obtain ⟨aa, nn, cc1, hv⟩ := row_slice hr
      rw [hv] at hr q0
      obtain rfl : nn = (ls.getD k lv0).2.length := row_len hr
      by_cases ht : (ls.getD k lv0).2.length ≤ 20
      · have HN : Hid (∀ j, j < k + 1 → (ls.getD j lv0).2.length ≤ 20) := fun j hj => by
          by_cases e : j = k
          · rw [e]; exact ht
          · exact HA.out j (by omega)
        have d1 : decide (20 < ((ls.getD k lv0).2.length : Int)) = false := decide_eq_false (by omega)
        generalize (ls.getD k lv0).2.length = T at *
        clear ht hr hv
        go_wp2_with fail
        go_roundw
        case rel => exact ⟨k + 1, by omega, by simp, HN.out, by first | trivial | rfl⟩
        case measure => first | (simp [intOf]; done) | (simp [intOf]; omega)
      · have HN : Hid (fewB ls = false) := by
          show _ = _
          unfold fewB
          rw [decide_eq_false (fun h => ht (h k hlt))]
          rfl
        have d1 : decide (20 < ((ls.getD k lv0).2.length : Int)) = true := decide_eq_true (by omega)
        generalize (ls.getD k lv0).2.length = T at *
        clear ht hr hv
        go_wp2_with fail
        go_ret
        exact ⟨by rw [HN.out]; rfl, rfl⟩
    · obtain rfl : k = ls.length := by omega
      have hge : ¬ (ls.length : Int) < (ls.length : Int) := by omega
      have HN : Hid (fewB ls = decide ((ls.length : Int) ≤ 20)) := by
        show _ = _
        unfold fewB
        rw [decide_eq_true HA.out]
        simp only [Bool.true_and]
        exact decide_eq_decide.2 (by omega)
      go_wp2_with fail
      go_ret
      exact ⟨by rw [HN.out]; rfl, rfl⟩
set_option maxHeartbeats 1000000 in
theorem few_empty (a : Option Addr) (cap : Nat) (w : World) : Calls Try.prog 8 #[.slice a 0 cap] w fun e w' => e = .returned (.bool (fewB [])) ∧ w' = w := by
  have h : Hid (fewB [] = true) := by show _ = _; simp [fewB]
  rw [h.out]
  go_enter Try.func8, Try.ntmps8
  go_wp2_with fail
  refine wp_loop_rounds 1 ?_
  rw [rounds_succ]
  go_wp2_with fail
  go_ret
  exact ⟨rfl, rfl⟩
theorem few_any (v : Value) (ls : List LV) (w : World) (h : LRow w v ls) (hm : ls.length ≤ maxLen) : Calls Try.prog 8 #[v] w fun e w' => e = .returned (.bool (fewB ls)) ∧ w' = w := by
  rcases h with ⟨a, cap, rfl, rfl⟩ | ⟨b, off, cap, rfl, hb, _, hc⟩
  · exact few_empty a cap w
  · exact few_some b off cap ls w hb hm hc

/-! ### made -/
theorem add_calm {cur l : List Chg} (hv : ∀ c ∈ cur, Vld c) (hc : Calm cur) : (∀ c ∈ (addAll cur l).1, Vld c) ∧ Calm (addAll cur l).1 ∧ (addAll cur l).1.length ≤ cur.length + l.length := by
  by_cases h : (addAll cur l).2 = 0
  · obtain ⟨h1, h2, h3, h4⟩ := addGo_zero cur l cur h
    have e : (addAll cur l).1 = cur ++ l := h1
    rw [e]
    refine ⟨fun c hm => ?_, ?_, by rw [List.length_append]; exact Nat.le_refl _⟩
    · rcases List.mem_append.1 hm with hm | hm
      · exact hv c hm
      · exact h2 c hm
    · unfold Calm
      rw [List.pairwise_append]
      exact ⟨hc, h4, fun o ho c hm => h3 c hm o ho⟩
  · have e : (addAll cur l).1 = cur := addGo_not cur l cur h
    rw [e]
    exact ⟨hv, hc, by omega⟩
/-- Add at a trace that lies behind the charges. -/
theorem add_far (B g : Nat) (v vl : Value) (cs l : List Chg) (w0 w : World) (h0 : ChgRow w0 vl l) (k : Below w0.heap.size w0 w) (hg : w0.heap.size ≤ g) (hvf : ∀ r, v.ownBlock = some r → w0.heap.size ≤ r) (hT : TAt w B g v cs) (hB : B ≤ w.heap.size) (hv : ∀ c ∈ cs, Vld c) (hn : cs.length + l.length ≤ 4000) :
    Calls Try.prog 19 #[.pointer (some ⟨g, 0, none⟩), vl] w (Added B g v cs l w) := by
  rcases h0 with ⟨a, cap, rfl, rfl⟩ | ⟨b, off, cap, rfl, hb, hp, hc⟩
  · refine (add_empty B g _ cs a cap w hT).mono fun e w' hh => ?_
    obtain ⟨rfl, rfl⟩ := hh
    exact ⟨rfl, _, hT, Only.refl _ _, fun r e => .inl e⟩
  · exact add_any B g _ _ cs l w hB hT (.inr ⟨b, off, cap, rfl, Nat.lt_of_lt_of_le hb k.size, hp, fun j hj => (hc j hj).below hb k⟩) (fun r e => by
      have e' : b = r := by simpa [Value.ownBlock] using e
      subst e'
      exact ⟨by omega, fun e2 => by have := hvf _ e2; omega⟩) hv hn
def Made (w : World) (e : Ending) (w' : World) : Prop :=
  ∃ g v va cs, e = .returned (.tuple #[.pointer (some ⟨g, 0, none⟩), va, .bool true]) ∧ TAt w' w.heap.size g v cs ∧ ROwns w' w.heap.size va cs ∧ (∀ c ∈ cs, Vld c) ∧ Calm cs ∧ cs.length ≤ 400 ∧ Below w.heap.size w w'
theorem rown_keep {w w' : World} {B : Nat} {v : Value} {cs : List Chg} {S : Nat → Prop} (h : ROwns w B v cs) (k : Only w w' S) (hS : ∀ r, v.ownBlock = some r → ¬ S r) : ROwns w' B v cs := by
  obtain ⟨hl, ⟨rfl, h0⟩ | ⟨r, cap, cur, rfl, hB, hg, hn, hm, hs, hc⟩⟩ := h
  · exact ⟨hl, .inl ⟨rfl, h0⟩⟩
  · exact ⟨hl, .inr ⟨r, cap, cur, rfl, hB, (k.block r (Array.getElem?_eq_some_iff.1 hg).1 (hS r rfl)).trans hg, hn, hm, hs, hc⟩⟩
set_option maxRecDepth 100000 in
set_option maxHeartbeats 4000000 in
theorem made_some (b off cap : Nat) (ls : List LV) (w : World) (hb : b < w.heap.size) (hf : fewB ls = true) (hc : ∀ j, j < ls.length → w.cell? ⟨b, off + j, none⟩ = some (ls.getD j lv0).1 ∧ ChgRow w (ls.getD j lv0).1 (ls.getD j lv0).2) :
    Calls Try.prog 10 #[.slice (some ⟨b, off, none⟩) ls.length cap] w (Made w) := by
  have HC := Lib.hid hc
  have hf' : (∀ j, j < ls.length → (ls.getD j lv0).2.length ≤ 20) ∧ ls.length ≤ 20 := by
    unfold fewB at hf
    rw [Bool.and_eq_true] at hf
    exact ⟨of_decide_eq_true hf.1, of_decide_eq_true hf.2⟩
  have HF := Lib.hid hf'.1
  have hl20 := hf'.2
  clear hc hf hf'
  go_enter Try.func10, Try.ntmps10
  go_wp2_with fail
  refine (new_any _).mono ?_
  rintro e w1 ⟨rfl, hT, hb1⟩
  have HT0 := Lib.hid (hT.base (B := w.heap.size))
  have HB0 := Lib.hid hb1
  clear hT hb1
  go_wp2_with fail
  go_loopw [6, 7, 8, 9] (fun va i nx ee wr => ∃ (k : Nat) (v : Value) (cs : List Chg), k ≤ ls.length ∧ i = .int .i64 k ∧ TAt wr w.heap.size w.heap.size v cs ∧ ROwns wr w.heap.size va cs ∧ (∀ r, va.ownBlock = some r → r ≠ w.heap.size ∧ v.ownBlock ≠ some r) ∧ (∀ c ∈ cs, Vld c) ∧ Calm cs ∧ cs.length ≤ k * 20 ∧ Below w.heap.size w wr) (fun _ i _ _ _ => ls.length - (intOf i).toNat)
  case atStart => exact ⟨0, _, [], Nat.zero_le _, rfl, HT0.out, ⟨rfl, .inl ⟨rfl, rfl⟩⟩, (fun r e => by simp [Value.ownBlock] at e), (fun c h => by cases h), List.Pairwise.nil, Nat.zero_le _, HB0.out⟩
  case round =>
    obtain ⟨k, v, cs, hk, rfl, hT, hR, hsep, hv, hca, hcl, hbw⟩ := hrel
    have HT := Lib.hid hT
    have HR := Lib.hid hR
    have HS := Lib.hid hsep
    have HV := Lib.hid hv
    have HCA := Lib.hid hca
    have HB := Lib.hid hbw
    have hsz := hbw.size
    have lg := hT.lt
    obtain ⟨av, nv, cv, rfl⟩ := own_shape hR
    clear hT hR hsep hv hca hbw
    by_cases hlt : k < ls.length
    · obtain ⟨q0', hr'⟩ := HC.out k hlt
      have q0 := (HB.out.cell (p := ⟨b, off + k, none⟩) hb).trans q0'
      have hlt' : (k : Int) < (ls.length : Int) := by omega
      have hl2 := HF.out k hlt
      generalize (ls.getD k lv0).2 = L at *
      generalize (ls.getD k lv0).1 = LVv at *
      have HRW := Lib.hid hr'
      obtain ⟨aa, nn, c1, rfl⟩ := row_slice hr'
      have PL := Lib.hid (fun (w2 : World) (h2 : Below w.heap.size w w2) => plain_any _ L w2 (hr'.below h2) (by omega))
      have lb := cell_lt q0
      clear hr' q0'
      go_wp2_with fail
      refine (PL.out _ HB.out).mono ?_
      rintro e w2 ⟨vp, rfl, hop, hb2⟩
      obtain ⟨a2, n2, c2, rfl⟩ := own_shape hop
      have HB2 := Lib.hid (HB.out.trans (hb2.mono hsz))
      have hR2 := rown_below HR.out hb2
      have hs2 := hb2.size
      have RA := Lib.hid (radd_any w.heap.size wr.heap.size _ _ cs L w2 (by omega) hR2 hop HV.out (by omega))
      have q2 := (hb2.cell (p := ⟨b, off + k, none⟩) lb).trans q0
      have HT2 := Lib.hid (HT.out.below hb2)
      clear hb2 hop hR2 q0
      go_wp2_with fail
      refine RA.out.mono ?_
      rintro e w3 ⟨v3, rfl, hR3, hb3, hnew⟩
      obtain ⟨a3, n3, c3, rfl⟩ := own_shape hR3
      have HB3 := Lib.hid (HB2.out.trans (hb3.mono (by omega)))
      have q3 := (hb3.cell (p := ⟨b, off + k, none⟩) (cell_lt q2)).trans q2
      have HT3 := Lib.hid (HT2.out.below hb3)
      have HR3 := Lib.hid hR3
      have hs3 := hb3.size
      have HN3 : Hid (∀ r, (Value.slice a3 n3 c3).ownBlock = some r → r ≠ w.heap.size ∧ v.ownBlock ≠ some r) := fun r e => by
        rcases hnew with h | h
        · rw [h] at e; exact HS.out r e
        · have := h r e
          exact ⟨by omega, fun e2 => by have := (World.ownsRow.lt HT2.out.own r e2).2; omega⟩
      have AF := Lib.hid (add_far w.heap.size w.heap.size v _ cs L w w3 HRW.out HB3.out (Nat.le_refl _) (fun r e => (World.ownsRow.lt HT3.out.own r e).1) HT3.out (by omega) HV.out (by omega))
      unfold Added at AF
      obtain ⟨hv4, hca4, hcl4⟩ := add_calm (l := L) HV.out HCA.out
      have HV4 := Lib.hid hv4
      have HCA4 := Lib.hid hca4
      generalize (addAll cs L).1 = cs4 at *
      generalize (addAll cs L).2 = E at *
      have dE : (E != E) = false := by simp
      clear hnew hb3 hR3 q2 hv4 hca4 RA
      go_wp2_with fail
      refine AF.out.mono ?_
      rintro e w4 ⟨rfl, v4, hT4, hO4, hr4⟩
      have HT4 := Lib.hid hT4
      have HR4 := Lib.hid (rown_keep HR3.out hO4 (fun r e hs => by
        obtain ⟨n1, n2⟩ := HN3.out r e
        rcases hs with hs | hs
        · exact n1 hs
        · exact n2 hs))
      have HN4 : Hid (∀ r, (Value.slice a3 n3 c3).ownBlock = some r → r ≠ w.heap.size ∧ v4.ownBlock ≠ some r) := fun r e => by
        obtain ⟨n1, n2⟩ := HN3.out r e
        refine ⟨n1, fun e2 => ?_⟩
        rcases hr4 r e2 with h | h
        · exact n2 h
        · have := (World.ownsRow.lt HR3.out r e).2
          omega
      have HB4 := Lib.hid (HB3.out.trans (hO4.below (by omega) (fun i hi => by
        rcases hi with rfl | hi
        · exact Nat.le_refl _
        · exact (World.ownsRow.lt HT3.out.own i hi).1)))
      clear hT4 hO4 hr4 q3
      go_wp2_with fail
      go_roundw
      case rel => exact ⟨k + 1, v4, cs4, by omega, by simp, HT4.out, HR4.out, HN4.out, HV4.out, HCA4.out, by omega, HB4.out⟩
      case measure => first | (simp [intOf]; done) | (simp [intOf]; omega)
    · obtain rfl : k = ls.length := by omega
      have hge : ¬ (ls.length : Int) < (ls.length : Int) := by omega
      go_wp2_with fail
      go_ret3
      exact ⟨_, v, _, cs, rfl, HT.out, HR.out, HV.out, HCA.out, by omega, HB.out⟩
set_option maxHeartbeats 1000000 in
theorem made_empty (a : Option Addr) (cap : Nat) (w : World) : Calls Try.prog 10 #[.slice a 0 cap] w (Made w) := by
  go_enter Try.func10, Try.ntmps10
  go_wp2_with fail
  refine (new_any _).mono ?_
  rintro e w1 ⟨rfl, hT, hb1⟩
  have HT0 := Lib.hid (hT.base (B := w.heap.size))
  have HB0 := Lib.hid hb1
  clear hT hb1
  go_wp2_with fail
  refine wp_loop_rounds 1 ?_
  rw [rounds_succ]
  go_wp2_with fail
  go_ret3
  exact ⟨_, _, _, [], rfl, HT0.out, ⟨rfl, .inl ⟨rfl, rfl⟩⟩, (fun c h => by cases h), List.Pairwise.nil, Nat.zero_le _, HB0.out⟩
theorem made_any (v : Value) (ls : List LV) (w : World) (h : LRow w v ls) (hf : fewB ls = true) : Calls Try.prog 10 #[v] w (Made w) := by
  rcases h with ⟨a, cap, rfl, rfl⟩ | ⟨b, off, cap, rfl, hb, _, hc⟩
  · exact made_empty a cap w
  · exact made_some b off cap ls w hb hf hc
end Go.Proofs.Ytfpifaccjfgfkaa
