/- What trace.Within, trace.Touch and trace.Busy answer. Each theorem's premises are its conditions. -/
import Derived.Test.YtfpifaccjfgfkaaTraceSum
import Derived.Test.YtfpifaccjfgfkaaTraceHas
namespace Go.Proofs.Ytfpifaccjfgfkaa
open Go.RowKit Go.Shelf
attribute [local go_sem] Oper.semAt_some

/-- what is told of a window. -/
def told (below n f t : Int) (x : Int) : Value := if askErr n below f t = 0 then .tuple #[.int .i64 x, .int .i64 0] else .tuple #[.int .i64 0, .int .i64 (askErr n below f t)]
theorem asked_zero {n below f t : Int} (h : askErr n below f t = 0) : 0 ≤ n ∧ n < below ∧ 0 ≤ f ∧ f < 1099511627776 ∧ 0 ≤ t ∧ t < 1099511627776 ∧ f ≤ t := by
  unfold askErr at h
  split at h
  · cases h
  · rename_i h1
    split at h
    · rename_i h2; exact absurd h h2
    · rename_i h2
      split at h
      · cases h
      · have h1 := inB_true.1 (by simpa using h1)
        have h2 := first_zero.1 (Decidable.not_not.1 h2)
        have a := time_zero.1 h2.1
        have b := time_zero.1 h2.2
        omega
theorem both_bound (a b f t : Int) (hb : b < 1099511627776) (ha : 0 ≤ a) : 0 ≤ bothOf a b f t ∧ bothOf a b f t ≤ 1099511627776 := by
  unfold bothOf
  omega
theorem inWin_bound (f t : Int) (c : VC) : 0 ≤ inWin f t c.1 ∧ inWin f t c.1 ≤ 1099511627776 := by
  obtain ⟨c, hc⟩ := c
  obtain ⟨_, _, _, _, _, _, _, _, _, _, _⟩ := hc
  unfold inWin
  dsimp only
  split <;> omega
theorem atWin_bound (f t : Int) (c : VC) : 0 ≤ atWin f t c.1 ∧ atWin f t c.1 ≤ 1099511627776 := by
  obtain ⟨c, hc⟩ := c
  obtain ⟨_, _, _, _, _, _, _, _, _, _, _⟩ := hc
  have := both_bound c.fr c.to f t (by assumption) (by assumption)
  unfold atWin
  dsimp only
  omega
theorem busyWin_bound (k f t : Int) (c : VC) : 0 ≤ busyWin k f t c.1 ∧ busyWin k f t c.1 ≤ 1099511627776 := by
  obtain ⟨c, hc⟩ := c
  obtain ⟨_, _, _, _, _, _, _, _, _, _, _⟩ := hc
  have := both_bound c.fr c.to f t (by assumption) (by assumption)
  unfold busyWin
  dsimp only
  split <;> omega

set_option maxRecDepth 100000 in
set_option maxHeartbeats 1000000 in
theorem within_t_any (B g : Nat) (v : Value) (ys : List VC) (n f t : Int) (w : World) (hl : ys.length ≤ 4000) (h : TAt w B g v (ys.map (·.1))) :
    Calls Try.prog 20 #[.pointer (some ⟨g, 0, none⟩), .int .i64 n, .int .i64 f, .int .i64 t] w (Gives (told 64 n f t (sumOf (fun c => inWin f t c.1) (ofServer n ys))) w) := by
  have AS := Lib.hid (asked_any g n 64 f t)
  have AZ := Lib.hid (@asked_zero n 64 f t)
  unfold told
  generalize askErr n 64 f t = E at *
  have hmf : ∀ (fn : Fn) (first cap : Array Value) (w : World), (Instr.makeFunc fn first cap).run Try.prog w = .ok (.func fn first cap) w := fun _ _ _ _ => rfl
  have HT := Lib.hid h
  clear h
  by_cases hE : E = 0
  · subst hE
    obtain ⟨n0, n1, f0, f1, t0, t1, ft⟩ := AZ.out rfl
    rw [if_pos rfl]
    have HB0 : Hid (Below w.heap.size w ((w.alloc (.cells #[.int .i64 f] 3)).alloc (.cells #[.int .i64 t] 3))) := Lib.hid (bel_alloc (bel_alloc (Below.refl _ _)))
    go_enter Try.func20, Try.ntmps20
    go_wp2_with fail
    refine (AS.out _).mono ?_
    rintro e w1 ⟨rfl, b1⟩
    have HB1 := Lib.hid (HB0.out.trans (b1.mono HB0.out.size))
    have k0 : w1.cell? ⟨w.heap.size, 0, none⟩ = some (.int .i64 f) := (b1.cell (by first | (simp; done) | (simp; omega))).trans (by go_simp)
    have k1 : w1.cell? ⟨w.heap.size + 1, 0, none⟩ = some (.int .i64 t) := (b1.cell (by first | (simp; done) | (simp; omega))).trans (by go_simp)
    clear b1
    go_wp2_with fail
    refine (of_any g n w1).mono ?_
    rintro e w2 ⟨rfl, b2, ck, cn⟩
    have HB2 := Lib.hid (HB1.out.trans (b2.mono HB1.out.size))
    have j0 := (b2.cell (cell_lt k0)).trans k0
    have j1 := (b2.cell (cell_lt k1)).trans k1
    have hf : Tm f := ⟨f0, by omega⟩
    have ht : Tm t := ⟨t0, by omega⟩
    have SM := Lib.hid (callsIn_wide.1 (summed_hands 46 35 #[.pointer (some ⟨w1.heap.size, 0, none⟩), .pointer (some ⟨w1.heap.size + 1, 0, none⟩)] #[.pointer (some ⟨w.heap.size, 0, none⟩), .pointer (some ⟨w.heap.size + 1, 0, none⟩)] (fun c => inWin f t c.1) (ofServer n ys) w2 (fun _ _ => rfl) (fun _ _ => rfl)
      (fun W hW => of_hands B g w1.heap.size (w1.heap.size + 1) v n ys w2 hl (HT.out.below HB2.out) ck cn W hW) (fun x U hU => within1 x.1 f t w.heap.size (w.heap.size + 1) U ((hU.cell (cell_lt j0)).trans j0) ((hU.cell (cell_lt j1)).trans j1)) (inWin_bound f t)))
    clear b2 ck cn hf ht
    go_wp2_with fail
    refine SM.out.mono ?_
    rintro e w3 ⟨rfl, b3⟩
    have HB3 := Lib.hid (HB2.out.trans (b3.mono HB2.out.size))
    clear b3
    go_wp2_with fail
    go_ret2
    exact ⟨rfl, HB3.out⟩
  · have d1 : (E == 0) = false := by rw [beq_eq_false_iff_ne]; exact hE
    have d2 : (E != 0) = true := by rw [bne_iff_ne]; exact hE
    rw [if_neg hE]
    clear AZ
    have HB0 : Hid (Below w.heap.size w ((w.alloc (.cells #[.int .i64 f] 3)).alloc (.cells #[.int .i64 t] 3))) := Lib.hid (bel_alloc (bel_alloc (Below.refl _ _)))
    go_enter Try.func20, Try.ntmps20
    go_wp2_with fail
    refine (AS.out _).mono ?_
    rintro e w1 ⟨rfl, b1⟩
    have HB1 := Lib.hid (HB0.out.trans (b1.mono HB0.out.size))
    clear b1
    go_wp2_with fail
    go_ret2
    exact ⟨rfl, HB1.out⟩

set_option maxRecDepth 100000 in
set_option maxHeartbeats 1000000 in
theorem touch_t_any (B g : Nat) (v : Value) (ys : List VC) (n f t : Int) (w : World) (hl : ys.length ≤ 4000) (h : TAt w B g v (ys.map (·.1))) :
    Calls Try.prog 22 #[.pointer (some ⟨g, 0, none⟩), .int .i64 n, .int .i64 f, .int .i64 t] w (Gives (told 64 n f t (sumOf (fun c => atWin f t c.1) (ofServer n ys))) w) := by
  have AS := Lib.hid (asked_any g n 64 f t)
  have AZ := Lib.hid (@asked_zero n 64 f t)
  unfold told
  generalize askErr n 64 f t = E at *
  have hmf : ∀ (fn : Fn) (first cap : Array Value) (w : World), (Instr.makeFunc fn first cap).run Try.prog w = .ok (.func fn first cap) w := fun _ _ _ _ => rfl
  have HT := Lib.hid h
  clear h
  by_cases hE : E = 0
  · subst hE
    obtain ⟨n0, n1, f0, f1, t0, t1, ft⟩ := AZ.out rfl
    rw [if_pos rfl]
    have HB0 : Hid (Below w.heap.size w ((w.alloc (.cells #[.int .i64 f] 3)).alloc (.cells #[.int .i64 t] 3))) := Lib.hid (bel_alloc (bel_alloc (Below.refl _ _)))
    go_enter Try.func22, Try.ntmps22
    go_wp2_with fail
    refine (AS.out _).mono ?_
    rintro e w1 ⟨rfl, b1⟩
    have HB1 := Lib.hid (HB0.out.trans (b1.mono HB0.out.size))
    have k0 : w1.cell? ⟨w.heap.size, 0, none⟩ = some (.int .i64 f) := (b1.cell (by first | (simp; done) | (simp; omega))).trans (by go_simp)
    have k1 : w1.cell? ⟨w.heap.size + 1, 0, none⟩ = some (.int .i64 t) := (b1.cell (by first | (simp; done) | (simp; omega))).trans (by go_simp)
    clear b1
    go_wp2_with fail
    refine (of_any g n w1).mono ?_
    rintro e w2 ⟨rfl, b2, ck, cn⟩
    have HB2 := Lib.hid (HB1.out.trans (b2.mono HB1.out.size))
    have j0 := (b2.cell (cell_lt k0)).trans k0
    have j1 := (b2.cell (cell_lt k1)).trans k1
    have hf : Tm f := ⟨f0, by omega⟩
    have ht : Tm t := ⟨t0, by omega⟩
    have SM := Lib.hid (callsIn_wide.1 (summed_hands 46 36 #[.pointer (some ⟨w1.heap.size, 0, none⟩), .pointer (some ⟨w1.heap.size + 1, 0, none⟩)] #[.pointer (some ⟨w.heap.size, 0, none⟩), .pointer (some ⟨w.heap.size + 1, 0, none⟩)] (fun c => atWin f t c.1) (ofServer n ys) w2 (fun _ _ => rfl) (fun _ _ => rfl)
      (fun W hW => of_hands B g w1.heap.size (w1.heap.size + 1) v n ys w2 hl (HT.out.below HB2.out) ck cn W hW) (fun x U hU => touch1 x.1 x.2 f t hf ht w.heap.size (w.heap.size + 1) U ((hU.cell (cell_lt j0)).trans j0) ((hU.cell (cell_lt j1)).trans j1)) (atWin_bound f t)))
    clear b2 ck cn hf ht
    go_wp2_with fail
    refine SM.out.mono ?_
    rintro e w3 ⟨rfl, b3⟩
    have HB3 := Lib.hid (HB2.out.trans (b3.mono HB2.out.size))
    clear b3
    go_wp2_with fail
    go_ret2
    exact ⟨rfl, HB3.out⟩
  · have d1 : (E == 0) = false := by rw [beq_eq_false_iff_ne]; exact hE
    have d2 : (E != 0) = true := by rw [bne_iff_ne]; exact hE
    rw [if_neg hE]
    clear AZ
    have HB0 : Hid (Below w.heap.size w ((w.alloc (.cells #[.int .i64 f] 3)).alloc (.cells #[.int .i64 t] 3))) := Lib.hid (bel_alloc (bel_alloc (Below.refl _ _)))
    go_enter Try.func22, Try.ntmps22
    go_wp2_with fail
    refine (AS.out _).mono ?_
    rintro e w1 ⟨rfl, b1⟩
    have HB1 := Lib.hid (HB0.out.trans (b1.mono HB0.out.size))
    clear b1
    go_wp2_with fail
    go_ret2
    exact ⟨rfl, HB1.out⟩

set_option maxRecDepth 100000 in
set_option maxHeartbeats 1000000 in
theorem busy_t_any (B g : Nat) (v : Value) (ys : List VC) (n f t : Int) (w : World) (hl : ys.length ≤ 4000) (h : TAt w B g v (ys.map (·.1))) :
    Calls Try.prog 23 #[.pointer (some ⟨g, 0, none⟩), .int .i64 n, .int .i64 f, .int .i64 t] w (Gives (told 16 n f t (sumOf (fun c => busyWin n f t c.1) ys)) w) := by
  have AS := Lib.hid (asked_any g n 16 f t)
  have AZ := Lib.hid (@asked_zero n 16 f t)
  unfold told
  generalize askErr n 16 f t = E at *
  have hmf : ∀ (fn : Fn) (first cap : Array Value) (w : World), (Instr.makeFunc fn first cap).run Try.prog w = .ok (.func fn first cap) w := fun _ _ _ _ => rfl
  have HT := Lib.hid h
  clear h
  by_cases hE : E = 0
  · subst hE
    obtain ⟨n0, n1, f0, f1, t0, t1, ft⟩ := AZ.out rfl
    rw [if_pos rfl]
    have HB0 : Hid (Below w.heap.size w (((w.alloc (.cells #[.int .i64 n] 3)).alloc (.cells #[.int .i64 f] 3)).alloc (.cells #[.int .i64 t] 3))) := Lib.hid (bel_alloc (bel_alloc (bel_alloc (Below.refl _ _))))
    go_enter Try.func23, Try.ntmps23
    go_wp2_with fail
    refine (AS.out _).mono ?_
    rintro e w1 ⟨rfl, b1⟩
    have HB1 := Lib.hid (HB0.out.trans (b1.mono HB0.out.size))
    have k0 : w1.cell? ⟨w.heap.size, 0, none⟩ = some (.int .i64 n) := (b1.cell (by first | (simp; done) | (simp; omega))).trans (by go_simp)
    have k1 : w1.cell? ⟨w.heap.size + 1, 0, none⟩ = some (.int .i64 f) := (b1.cell (by first | (simp; done) | (simp; omega))).trans (by go_simp)
    have k2 : w1.cell? ⟨w.heap.size + 1 + 1, 0, none⟩ = some (.int .i64 t) := (b1.cell (by first | (simp; done) | (simp; omega))).trans (by go_simp)
    clear b1
    go_wp2_with fail
    refine (all_any B g v (ys.map (·.1)) w1 (HT.out.below HB1.out) (by rw [List.length_map]; exact hl)).mono ?_
    rintro e w2 ⟨k, v', rfl, b2, ck, hr⟩
    have HB2 := Lib.hid (HB1.out.trans (b2.mono HB1.out.size))
    have j0 := (b2.cell (cell_lt k0)).trans k0
    have j1 := (b2.cell (cell_lt k1)).trans k1
    have j2 := (b2.cell (cell_lt k2)).trans k2
    have hf : Tm f := ⟨f0, by omega⟩
    have ht : Tm t := ⟨t0, by omega⟩
    have SM := Lib.hid (callsIn_wide.1 (summed_hands 57 39 #[.pointer (some ⟨k, 0, none⟩)] #[.pointer (some ⟨w.heap.size, 0, none⟩), .pointer (some ⟨w.heap.size + 1, 0, none⟩), .pointer (some ⟨w.heap.size + 1 + 1, 0, none⟩)] (fun c => busyWin n f t c.1) ys w2 (fun _ _ => rfl) (fun _ _ => rfl)
      (fun W hW => val_hands k v' ys w2 hl hr ck W hW) (fun x U hU => busy1 x.1 x.2 n f t hf ht w.heap.size (w.heap.size + 1) (w.heap.size + 1 + 1) U ((hU.cell (cell_lt j0)).trans j0) ((hU.cell (cell_lt j1)).trans j1) ((hU.cell (cell_lt j2)).trans j2)) (busyWin_bound n f t)))
    clear b2 ck hr hf ht
    go_wp2_with fail
    refine SM.out.mono ?_
    rintro e w3 ⟨rfl, b3⟩
    have HB3 := Lib.hid (HB2.out.trans (b3.mono HB2.out.size))
    clear b3
    go_wp2_with fail
    go_ret2
    exact ⟨rfl, HB3.out⟩
  · have d1 : (E == 0) = false := by rw [beq_eq_false_iff_ne]; exact hE
    have d2 : (E != 0) = true := by rw [bne_iff_ne]; exact hE
    rw [if_neg hE]
    clear AZ
    have HB0 : Hid (Below w.heap.size w (((w.alloc (.cells #[.int .i64 n] 3)).alloc (.cells #[.int .i64 f] 3)).alloc (.cells #[.int .i64 t] 3))) := Lib.hid (bel_alloc (bel_alloc (bel_alloc (Below.refl _ _))))
    go_enter Try.func23, Try.ntmps23
    go_wp2_with fail
    refine (AS.out _).mono ?_
    rintro e w1 ⟨rfl, b1⟩
    have HB1 := Lib.hid (HB0.out.trans (b1.mono HB0.out.size))
    clear b1
    go_wp2_with fail
    go_ret2
    exact ⟨rfl, HB1.out⟩
end Go.Proofs.Ytfpifaccjfgfkaa
