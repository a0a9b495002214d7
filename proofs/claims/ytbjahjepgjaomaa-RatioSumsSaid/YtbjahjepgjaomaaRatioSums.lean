/- RatioSums answers true at every slice of numbers. No condition. -/
import Derived.Test.YtbjahjepgjaomaaSeqOf
import Derived.WalkLawsBesides
import Derived.WalkSpells
import Derived.Outline
namespace Go.Proofs.Ytbjahjepgjaomaa.ratioSums
open Go.ChangeShapes Go.WideShapes Go.ChangeAt Go.RowKit Go.Joins

/-! ### the plain law -/
theorem bel_via {a w w1 w' : World} (h : Below a.heap.size a w) (hb : Below w1.heap.size w1 w') (hm : Below w.heap.size w w1) : Below a.heap.size a w' := bel_end (bel_end h hm) hb
/-- one number more, as the law has it. -/
def lawStep (st : Int × Int × Int) (x : Int) : Int × Int × Int :=
  if st.2.2 = 0 then (if x < 0 then (st.1, st.2.1, 10) else if 9223372036854775807 - x < st.1 then (st.1, st.2.1, 11) else (st.1 + x, max st.2.1 x, 0)) else st
def lawAll (xs : List Int) : Int × Int × Int := xs.foldl lawStep (0, 0, 0)
theorem lawStep_stays (st : Int × Int × Int) (h : st.2.2 ≠ 0) : ∀ ys : List Int, ys.foldl lawStep st = st
  | [] => rfl
  | y :: ys => by
    have e : lawStep st y = st := by unfold lawStep; rw [if_neg h]
    rw [List.foldl_cons, e]; exact lawStep_stays st h ys
theorem someNeg_cons (x : Int) (ys : List Int) : someNeg (x :: ys) = (decide (x < 0) || someNeg ys) := by simp [someNeg]
theorem rs_neg {xs : List Int} (h : someNeg xs = true) : rsumErr xs = 10 ∧ rsumNum xs = 0 := by unfold rsumErr rsumNum; rw [h]; exact ⟨rfl, rfl⟩
theorem rs_pos {xs : List Int} (h : someNeg xs = false) : rsumErr xs = sumErr xs ∧ rsumNum xs = sumNum xs := by unfold rsumErr rsumNum; rw [h]; exact ⟨rfl, rfl⟩
theorem su_some {xs : List Int} {t : Int} (h : sumGo 0 xs = some t) : sumErr xs = 0 ∧ sumNum xs = t := by unfold sumErr sumNum; rw [h]; exact ⟨rfl, rfl⟩
theorem su_none {xs : List Int} (h : sumGo 0 xs = none) : sumErr xs = 11 ∧ sumNum xs = 0 := by unfold sumErr sumNum; rw [h]; exact ⟨rfl, rfl⟩
theorem pair_sum {s x : Int} (hs : 0 ≤ s) (hx : Fit x) (hs' : s ≤ 9223372036854775807) : (x < 0 → rsumErr [s, x] = 10) ∧ (0 ≤ x → 9223372036854775807 < s + x → rsumErr [s, x] = 11) ∧ (0 ≤ x → s + x ≤ 9223372036854775807 → rsumErr [s, x] = 0 ∧ rsumNum [s, x] = s + x) := by
  have hn : someNeg [s, x] = decide (x < 0) := by rw [someNeg_cons, someNeg_cons, decide_eq_false (by omega)]; simp [someNeg]
  refine ⟨fun h => ?_, fun h h2 => ?_, fun h h2 => ?_⟩
  · exact (rs_neg (hn.trans (decide_eq_true h))).1
  · have g : sumGo 0 [s, x] = none := by unfold sumGo; rw [if_pos (by omega)]; unfold sumGo; rw [if_neg (by omega)]
    rw [(rs_pos (hn.trans (decide_eq_false (by omega)))).1, (su_none g).1]
  · have g : sumGo 0 [s, x] = some (s + x) := by unfold sumGo; rw [if_pos (by omega)]; unfold sumGo; rw [if_pos (by omega)]; simp [sumGo]
    have p := rs_pos (hn.trans (decide_eq_false (by omega)))
    rw [p.1, p.2, (su_some g).1, (su_some g).2]
    exact ⟨rfl, rfl⟩
/-- the law's state and the sum's: the same as long as nothing is wrong. -/
theorem fold_rel : ∀ (ys : List Int) (s m : Int), (∀ n ∈ ys, Fit n) → 0 ≤ s → s ≤ 9223372036854775807 →
    ((ys.foldl lawStep (s, m, 0)).2.2 = (ys.foldl sumsStep (s, m, 0)).2.2 ∧ ((ys.foldl lawStep (s, m, 0)).2.2 = 0 → ys.foldl sumsStep (s, m, 0) = ys.foldl lawStep (s, m, 0) ∧ someNeg ys = false ∧ sumGo s ys = some (ys.foldl lawStep (s, m, 0)).1) ∧
      ((ys.foldl lawStep (s, m, 0)).2.2 ≠ 0 → someNeg ys = true ∨ (someNeg ys = false ∧ (ys.foldl lawStep (s, m, 0)).2.2 = 11 ∧ sumGo s ys = none)))
  | [], s, m, _, _, _ => ⟨rfl, fun _ => ⟨rfl, rfl, rfl⟩, fun h => absurd rfl h⟩
  | x :: ys, s, m, hf, h0, h1 => by
    have hx := hf x (List.mem_cons_self ..)
    obtain ⟨p1, p2, p3⟩ := pair_sum h0 hx h1
    rw [List.foldl_cons, List.foldl_cons, someNeg_cons]
    by_cases hn : x < 0
    · have e1 : lawStep (s, m, 0) x = (s, m, 10) := by unfold lawStep; rw [if_pos rfl, if_pos hn]
      have e2 : sumsStep (s, m, 0) x = (0, m, 10) := by unfold sumsStep; rw [if_pos rfl, p1 hn, if_neg (by decide)]
      rw [e1, e2, lawStep_stays _ (by show (10 : Int) ≠ 0; decide), sumsStep_stays _ (by show (10 : Int) ≠ 0; decide), decide_eq_true hn]
      exact ⟨rfl, fun h => absurd h (show ¬ ((10 : Int) = 0) by decide), fun _ => .inl rfl⟩
    · by_cases ho : 9223372036854775807 - x < s
      · have e1 : lawStep (s, m, 0) x = (s, m, 11) := by unfold lawStep; rw [if_pos rfl, if_neg hn, if_pos ho]
        have e2 : sumsStep (s, m, 0) x = (0, m, 11) := by unfold sumsStep; rw [if_pos rfl, p2 (by omega) (by omega), if_neg (by decide)]
        rw [e1, e2, lawStep_stays _ (by show (11 : Int) ≠ 0; decide), sumsStep_stays _ (by show (11 : Int) ≠ 0; decide), decide_eq_false hn]
        refine ⟨rfl, fun h => absurd h (show ¬ ((11 : Int) = 0) by decide), fun _ => ?_⟩
        cases hs : someNeg ys with
        | true => exact .inl rfl
        | false => exact .inr ⟨rfl, rfl, by unfold sumGo; rw [if_neg (by omega)]⟩
      · have e1 : lawStep (s, m, 0) x = (s + x, max m x, 0) := by unfold lawStep; rw [if_pos rfl, if_neg hn, if_neg ho]
        have e2 : sumsStep (s, m, 0) x = (s + x, max m x, 0) := by unfold sumsStep; rw [if_pos rfl, if_pos (p3 (by omega) (by omega)).1, (p3 (by omega) (by omega)).2]
        have ih := fold_rel ys (s + x) (max m x) (fun n hn => hf n (List.mem_cons_of_mem _ hn)) (by omega) (by omega)
        have g : sumGo s (x :: ys) = sumGo (s + x) ys := by conv => lhs; unfold sumGo; rw [if_pos (by omega)]
        rw [e1, e2, decide_eq_false hn, g, Bool.false_or]
        exact ih
/-- what is handed back, as the law has it. -/
theorem law_end {xs : List Int} (hf : ∀ n ∈ xs, Fit n) {S T E : Int} (h : lawAll xs = (S, T, E)) :
    (E = 0 → rsumNum xs = S ∧ rsumErr xs = 0 ∧ foldAll xs = (S, T, 0)) ∧ (E ≠ 0 → rsumNum xs = 0 ∧ rsumErr xs = (if someNeg xs = true then 10 else E) ∧ (foldAll xs).2.2 = E) := by
  obtain ⟨a, b, c⟩ := fold_rel xs 0 0 hf (by omega) (by omega)
  unfold lawAll at h
  unfold foldAll
  rw [h] at a b c
  constructor
  · intro h0
    subst h0
    obtain ⟨b1, b2, b3⟩ := b rfl
    have p := rs_pos b2
    have q := su_some b3
    exact ⟨p.2.trans q.2, p.1.trans q.1, b1⟩
  · intro h0
    rcases c h0 with c1 | ⟨c1, c2, c3⟩
    · have p := rs_neg c1
      exact ⟨p.2, by rw [p.1, if_pos c1], a.symm⟩
    · have p := rs_pos c1
      have q := su_none c3
      exact ⟨p.2.trans q.2, by rw [p.1, q.1, if_neg (by rw [c1]; decide)]; exact c2.symm, a.symm⟩
theorem take_next {xs : List Int} {k : Nat} (hk : k < xs.length) : xs.take (k + 1) = xs.take k ++ [xs.getD k 0] := by
  rw [List.take_succ_eq_append_getElem hk]
  simp [List.getD, hk]
theorem law_next {xs : List Int} {k : Nat} (hk : k < xs.length) : lawAll (xs.take (k + 1)) = lawStep (lawAll (xs.take k)) (xs.getD k 0) ∧ someNeg (xs.take (k + 1)) = (someNeg (xs.take k) || decide (xs.getD k 0 < 0)) := by
  rw [take_next hk]
  exact ⟨by unfold lawAll; rw [List.foldl_append]; rfl, by unfold someNeg; rw [List.any_append]; simp⟩
theorem lawStep_range {st : Int × Int × Int} {x : Int} (h : 0 ≤ st.1 ∧ st.1 ≤ 9223372036854775807) : 0 ≤ (lawStep st x).1 ∧ (lawStep st x).1 ≤ 9223372036854775807 := by
  unfold lawStep
  split
  · split
    · exact h
    · split
      · exact h
      · show 0 ≤ st.1 + x ∧ st.1 + x ≤ _; omega
  · exact h
theorem lawAll_range : ∀ (ys : List Int) (st : Int × Int × Int), 0 ≤ st.1 ∧ st.1 ≤ 9223372036854775807 → 0 ≤ (ys.foldl lawStep st).1 ∧ (ys.foldl lawStep st).1 ≤ 9223372036854775807
  | [], _, h => h
  | _ :: ys, _, h => lawAll_range ys _ (lawStep_range h)

/-! ### the walk -/
set_option maxRecDepth 100000 in
set_option maxHeartbeats 4000000 in
theorem long (a : Option Addr) (len cap : Nat) (h : 60 < (len : Int)) (w : World) : Calls Try.prog 9 #[.slice a len cap] w (Yes w) := by
  have d0 : decide (60 < (len : Int)) = true := decide_eq_true h
  clear h
  go_enter Try.func9, Try.ntmps9
  go_wp2_with (go_at_call 14; refine (awake_yes _).mono ?_; rintro e w' ⟨rfl, hb⟩)
  go_ret
  exact ⟨rfl, hb⟩
set_option maxRecDepth 100000 in
set_option maxHeartbeats 4000000 in
theorem inside (b off cap : Nat) (xs : List Int) (h2 : xs.length ≤ 60) (hf : ∀ n ∈ xs, Fit n) (S T E A er B M G : Int) (hl : lawAll xs = (S, T, E)) (w : World) (hb : b < w.heap.size)
    (hc : ∀ j, j < xs.length → w.cell? ⟨b, off + j, none⟩ = some (.int .i64 (xs.getD j 0)))
    (hrs : Calls Try.prog 19 #[.slice (some ⟨b, off, none⟩) xs.length cap] w fun e w' => e = .returned (.tuple #[.int .i64 A, .int .i64 er]) ∧ w = w')
    (hsu : Calls Try.prog 20 #[.func (.func 28) #[] #[.pointer (some ⟨w.heap.size, 0, none⟩)]] (w.alloc (.cells #[.slice (some ⟨b, off, none⟩) xs.length cap] 41)) (Gives (.tuple #[.int .i64 B, .int .i64 M, .int .i64 G]) (w.alloc (.cells #[.slice (some ⟨b, off, none⟩) xs.length cap] 41))))
    (e0 : E = 0 → A = S ∧ er = 0 ∧ B = S ∧ M = T ∧ G = 0) (e1 : E ≠ 0 → A = 0 ∧ er = (if someNeg xs = true then 10 else E) ∧ B = 0 ∧ M = 0 ∧ G = E) : Calls Try.prog 9 #[.slice (some ⟨b, off, none⟩) xs.length cap] w (Yes w) := by
  have HC := Lib.hid hc
  have HF : Hid (∀ j, Fit (xs.getD j 0)) := fit_get hf
  have RS := Lib.hid hrs
  have SU := Lib.hid hsu
  have HA := Lib.hid hl
  have E0 := Lib.hid e0
  have E1 := Lib.hid e1
  obtain ⟨len, hlen⟩ : ∃ n, xs.length = n := ⟨_, rfl⟩
  have HL := Lib.hid hlen
  rw [hlen] at RS SU h2
  rw [hlen]
  have i0 : (len : Int) ≤ 60 := by omega
  clear hc hrs hsu hl e0 e1 hf hlen
  go_enter Try.func9, Try.ntmps9
  go_wp2_with fail
  refine (RS.out).mono ?_
  rintro e w' ⟨rfl, rfl⟩
  go_wp2_with fail
  refine (of_any2 _ _ _ _).mono ?_
  rintro e w1 ⟨rfl, rfl⟩
  go_wp2_with fail
  refine (SU.out).mono ?_
  rintro e w2 ⟨rfl, b2⟩
  have bb2 := (bel_alloc (Below.refl _ w)).trans (b2.mono (by simp))
  go_wp2_with fail
  refine (sums_nil _).mono ?_
  rintro e w3 ⟨rfl, b3⟩
  have bb3 := bel_end bb2 b3
  have HB := Lib.hid bb3
  clear b2 b3 bb2 bb3 RS SU
  go_wp2_with fail
  go_loop [11, 12, 13, 14, 15] (fun s t q n i => ∃ k : Nat, k ≤ len ∧ i = .int .i64 k ∧ s = .int .i64 (lawAll (xs.take k)).1 ∧ t = .int .i64 (lawAll (xs.take k)).2.1 ∧ q = .int .i64 (lawAll (xs.take k)).2.2 ∧ n = .bool (someNeg (xs.take k))) (fun _ _ _ _ i => len - (intOf i).toNat)
  case atStart => exact ⟨0, by omega, rfl, rfl, rfl, rfl, rfl⟩
  case round =>
    obtain ⟨k, hk, rfl, rfl, rfl, rfl, rfl⟩ := hrel
    have hr := lawAll_range (xs.take k) (0, 0, 0) ⟨by show (0 : Int) ≤ 0; omega, by show (0 : Int) ≤ 9223372036854775807; omega⟩
    by_cases hlt : k < len
    · have hcr : w3.cell? ⟨b, off + k, none⟩ = some (.int .i64 (xs.getD k 0)) := by rw [HB.out.cell (p := ⟨b, off + k, none⟩) hb]; exact HC.out k (by rw [HL.out]; exact hlt)
      have hx := HF.out k
      obtain ⟨n1, n2⟩ := law_next (xs := xs) (k := k) (by rw [HL.out]; exact hlt)
      have LN0 := Lib.hid n1
      have BN0 := Lib.hid n2
      have hlt' : (k : Int) < (len : Int) := by omega
      clear n1 n2 HC HF HA E0 E1
      generalize xs.getD k 0 = x at *
      obtain ⟨st, hst⟩ : ∃ st, lawAll (xs.take k) = st := ⟨_, rfl⟩
      have hr2 : 0 ≤ st.1 ∧ st.1 ≤ 9223372036854775807 := by rw [← hst]; exact hr
      rw [hst] at LN0 ⊢
      obtain ⟨s, t, q⟩ := st
      obtain ⟨n, hn⟩ : ∃ n, someNeg (xs.take k) = n := ⟨_, rfl⟩
      rw [hn] at BN0 ⊢
      obtain ⟨r0, r1⟩ := hr2
      have s0 : 0 ≤ s := r0
      have s1 : s ≤ 9223372036854775807 := r1
      clear hst hn hr r0 r1
      obtain ⟨x0, x1⟩ := hx
      by_cases hq : q = 0
      · subst hq
        by_cases hx0 : x < 0
        · have d0 : decide (x < 0) = true := decide_eq_true hx0
          have LN : Hid (lawAll (xs.take (k + 1)) = (s, t, 10)) := by
            show _ = _
            rw [LN0.out]
            unfold lawStep
            rw [if_pos rfl, if_pos hx0]
          have BN : Hid (someNeg (xs.take (k + 1)) = true) := by
            show _ = _
            rw [BN0.out, d0, Bool.or_true]
          clear LN0 BN0 hx0
          cases n <;> (go_wp2; all_goals exact ⟨⟨k + 1, by omega, by go_num, by rw [LN.out], by rw [LN.out], by rw [LN.out], by rw [BN.out]⟩, by simp [intOf]; omega⟩)
        · have d0 : decide (x < 0) = false := decide_eq_false hx0
          have BN : Hid (someNeg (xs.take (k + 1)) = n) := by
            show _ = _
            rw [BN0.out, d0, Bool.or_false]
          have x2 : 0 ≤ x := by omega
          by_cases ho : 9223372036854775807 - x < s
          · have d1 : decide (9223372036854775807 - x < s) = true := decide_eq_true ho
            have LN : Hid (lawAll (xs.take (k + 1)) = (s, t, 11)) := by
              show _ = _
              rw [LN0.out]
              unfold lawStep
              rw [if_pos rfl, if_neg hx0, if_pos ho]
            clear LN0 BN0 hx0 ho
            cases n <;> (go_wp2; all_goals exact ⟨⟨k + 1, by omega, by go_num, by rw [LN.out], by rw [LN.out], by rw [LN.out], by rw [BN.out]⟩, by simp [intOf]; omega⟩)
          · have d1 : decide (9223372036854775807 - x < s) = false := decide_eq_false ho
            have o1 : s + x ≤ 9223372036854775807 := by omega
            have LN : Hid (lawAll (xs.take (k + 1)) = (s + x, max t x, 0)) := by
              show _ = _
              rw [LN0.out]
              unfold lawStep
              rw [if_pos rfl, if_neg hx0, if_neg ho]
            clear LN0 BN0 hx0 ho
            cases n <;> (go_wp2; all_goals exact ⟨⟨k + 1, by omega, by go_num, by rw [LN.out], by rw [LN.out], by rw [LN.out], by rw [BN.out]⟩, by simp [intOf]; omega⟩)
      · have e1 : (q == 0) = false := by simp; exact hq
        have e2 : (q != 0) = true := by simp; exact hq
        have LN : Hid (lawAll (xs.take (k + 1)) = (s, t, q)) := by
          show _ = _
          rw [LN0.out]
          unfold lawStep
          rw [if_neg hq]
        obtain ⟨dx, hdx⟩ : ∃ d, decide (x < 0) = d := ⟨_, rfl⟩
        have BN : Hid (someNeg (xs.take (k + 1)) = (n || dx)) := by
          show _ = _
          rw [BN0.out, hdx]
        clear LN0 BN0 hq
        cases n <;> (go_wp2; all_goals exact ⟨⟨k + 1, by omega, by go_num, by rw [LN.out], by rw [LN.out], by rw [LN.out], by first | (rw [BN.out]; done) | (rw [BN.out]; rfl)⟩, by simp [intOf]; omega⟩)
    · obtain rfl : k = len := by omega
      have ht : xs.take k = xs := List.take_of_length_le (by rw [HL.out]; omega)
      rw [ht, HA.out]
      have e0 := E0.out
      have e1 := E1.out
      obtain ⟨n, hn⟩ : ∃ n, someNeg xs = n := ⟨_, rfl⟩
      rw [hn] at e1 ⊢
      clear E0 E1 HC HF HA HL hr ht hn
      by_cases hE : E = 0
      · obtain ⟨a1, a2, a3, a4, a5⟩ := e0 hE
        subst hE a1 a2 a3 a4 a5
        clear e0 e1
        go_wp2_with (go_at_call 14; refine (awake_yes _).mono ?_; rintro e w' ⟨rfl, hb⟩)
        go_ret
        exact ⟨rfl, bel_end HB.out hb⟩
      · obtain ⟨a1, a2, a3, a4, a5⟩ := e1 hE
        have f1 : (E == 0) = false := by simp; exact hE
        have f2 : (E != 0) = true := by simp; exact hE
        subst a1 a3 a4 a5
        clear e0 e1 hE
        cases n with
        | true =>
          rw [if_pos rfl] at a2
          subst a2
          go_wp2_with (go_at_call 14; refine (awake_yes _).mono ?_; rintro e w' ⟨rfl, hb⟩)
          go_ret
          exact ⟨rfl, bel_end HB.out hb⟩
        | false =>
          rw [if_neg (by decide)] at a2
          subst a2
          go_wp2_with (go_at_call 14; refine (awake_yes _).mono ?_; rintro e w' ⟨rfl, hb⟩)
          go_ret
          exact ⟨rfl, bel_end HB.out hb⟩
set_option maxRecDepth 100000 in
set_option maxHeartbeats 4000000 in
theorem empty (a : Option Addr) (cap : Nat) (w : World) : Calls Try.prog 9 #[.slice a 0 cap] w (Yes w) := by
  have e0 : rsumNum [] = 0 ∧ rsumErr [] = 0 := by decide
  have RS := Lib.hid (rsum_any (.slice a 0 cap) [] w (.inl ⟨a, cap, rfl, rfl⟩) (by intro n hn; cases hn) (by simp))
  have SU : Hid (Calls Try.prog 20 #[.func (.func 28) #[] #[.pointer (some ⟨w.heap.size, 0, none⟩)]] (w.alloc (.cells #[.slice a 0 cap] 41)) (Gives (.tuple #[.int .i64 0, .int .i64 0, .int .i64 0]) (w.alloc (.cells #[.slice a 0 cap] 41)))) :=
    sums_of (.slice a 0 cap) [] (by intro n hn; cases hn) (by simp) w.heap.size _ (by go_simp) (.inl ⟨a, cap, rfl, rfl⟩)
  rw [e0.1, e0.2] at RS
  clear e0
  go_enter Try.func9, Try.ntmps9
  go_wp2_with fail
  refine (RS.out).mono ?_
  rintro e w' ⟨rfl, rfl⟩
  go_wp2_with fail
  refine (of_any2 _ _ _ _).mono ?_
  rintro e w1 ⟨rfl, rfl⟩
  go_wp2_with fail
  refine (SU.out).mono ?_
  rintro e w2 ⟨rfl, b2⟩
  have bb2 := (bel_alloc (Below.refl _ w)).trans (b2.mono (by simp))
  go_wp2_with fail
  refine (sums_nil _).mono ?_
  rintro e w3 ⟨rfl, b3⟩
  have bb3 := bel_end bb2 b3
  have HB := Lib.hid bb3
  clear b2 b3 bb2 bb3 RS SU
  go_wp2_with fail
  refine wp_loop_rounds 1 ?_
  rw [rounds_succ]
  go_wp2_with (go_at_call 14; refine (awake_yes _).mono ?_; rintro e w' ⟨rfl, hb⟩)
  go_ret
  exact ⟨rfl, bel_end HB.out hb⟩
theorem walk (v : Value) (xs : List Int) (w : World) (hv : IntRow w v xs) (hf : ∀ n ∈ xs, Fit n) (_ : xs.length ≤ maxLen) : Calls Try.prog 9 #[v] w (Yes w) := by
  rcases hv with ⟨a, cap, rfl, rfl⟩ | ⟨b, off, cap, rfl, hb, hn, hc⟩
  · exact empty a cap w
  by_cases h : 60 < (xs.length : Int)
  · exact long (some ⟨b, off, none⟩) xs.length cap h w
  have hv : IntRow w (.slice (some ⟨b, off, none⟩) xs.length cap) xs := .inr ⟨b, off, cap, rfl, hb, hn, hc⟩
  have RS := rsum_any _ xs w hv hf (by omega)
  have SU := sums_of (.slice (some ⟨b, off, none⟩) xs.length cap) xs hf (by omega) w.heap.size (w.alloc (.cells #[.slice (some ⟨b, off, none⟩) xs.length cap] 41)) (by go_simp) (hv.below (bel_alloc (Below.refl _ _)))
  obtain ⟨⟨S, T, E⟩, hl⟩ : ∃ st, lawAll xs = st := ⟨_, rfl⟩
  obtain ⟨l0, l1⟩ := law_end hf hl
  by_cases hE : E = 0
  · obtain ⟨a1, a2, a3⟩ := l0 hE
    rw [a3, if_pos rfl] at SU
    rw [a1, a2] at RS
    exact inside b off cap xs (by omega) hf S T E S 0 S T 0 hl w hb hc RS SU (fun _ => ⟨rfl, rfl, rfl, rfl, rfl⟩) (fun h => absurd hE h)
  · obtain ⟨a1, a2, a3⟩ := l1 hE
    rw [a3, if_neg hE] at SU
    rw [a1] at RS
    exact inside b off cap xs (by omega) hf S T E 0 (rsumErr xs) 0 0 E hl w hb hc RS SU (fun h => absurd h hE) (fun _ => ⟨rfl, a2, rfl, rfl, rfl⟩)

set_option maxRecDepth 100000 in
theorem lifted (os : Os) (started : os.Started) (H : Type) (enc : TypeId × Value → H) :
    ReturnsInHanded {} Try.checked os 9 .any (Rows.ratioSumsSpec.pre6 enc Try.prog Try.f9 Rows.ratioSumsRow.domain false) (Rows.ratioSumsSpec.post enc Try.prog Try.f9 false true false false) := by
  refine returnsInHanded_of_change (C := Try.checked) own started (by kernel_rfl) Try.func9
    (ChangeSpec.witness6 (enc := enc) (C := Try.checked) false ⟨#[], #[.slice none 0 0], []⟩ 8 (by kernel_rfl) (by kernel_rfl) (by kernel_rfl) (by kernel_rfl)) ?_
  intro W base args ds gs before hval0 hW hcnd _
  have hval : ∀ (j : Nat) t v, Try.f9.params[j]? = some t → args[j]? = some v → Value.okWide Try.prog W .any base t v := hval0
  have hW' := hW
  obtain ⟨p, q, hA0, hV, _, hfz, hnd⟩ := hW'
  have hA : DataW.TrodAll enc Try.prog W 0 (fun _ => true) true Try.f9.params.toList args.toList ds p := hA0
  rw [Try.params9] at hA hval
  obtain ⟨v0, d0, rfl, _, h0⟩ := trodAll_one hA
  obtain ⟨xs, hxs, fxs, lxs⟩ := open_introw Try.underlying41 Try.underlying3 (by kernel_rfl) (hval 0 41 v0 rfl rfl) h0
  refine (walk v0 xs W hxs fxs lxs).mono fun e W' h => ?_
  exact law_post (f := Try.f9) rfl rfl Try.underlying4 (by kernel_rfl) (fun ds hd => by
    match ds, hd with
    | [_], _ => rfl) hW h

theorem over : Rows.ratioSumsRow.holds Try.pinned (OpenSpec.ofChange Rows.ratioSumsSpec) :=
  OpenClaim.holds_of_wide 9 Try.f9 rfl rfl rfl rfl rfl rfl rfl ⟨rfl, rfl, rfl, rfl, rfl⟩ rfl rfl rfl rfl rfl (by kernel_rfl) Try.func9 (by kernel_rfl)
    (of_decide_eq_true (by kernel_rfl)) (by unfold Func.isWrapper; first | (rw [if_pos (by decide +kernel)]; kernel_rfl) | (rw [if_neg (by decide +kernel)]; exact ⟨rfl, rfl⟩))
    (fun os started H enc _ => lifted os started H enc)

/-- THE STATEMENT. -/
theorem proved : Rows.RatioSumsSaid := over
end Go.Proofs.Ytbjahjepgjaomaa.ratioSums
