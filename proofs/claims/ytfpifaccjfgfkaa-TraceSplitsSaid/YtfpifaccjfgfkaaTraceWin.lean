/- What the closures of trace's Within, Touch and Busy answer of a charge. Each theorem's premises are its conditions. -/
import Derived.Test.YtfpifaccjfgfkaaTraceSeq
namespace Go.Proofs.Ytfpifaccjfgfkaa
open Go.RowKit

/-- how much of a charge a window counts: all if it lies in it. -/
def inWin (f t : Int) (c : Chg) : Int := if c.fr < f ∨ t < c.to then 0 else c.n
def atWin (f t : Int) (c : Chg) : Int := min c.n (bothOf c.fr c.to f t)
def busyWin (k f t : Int) (c : Chg) : Int := if c.wk = k then bothOf c.fr c.to f t else 0
set_option maxHeartbeats 1000000 in
theorem within1 (c : Chg) (f t : Int) (Bf Bt : Nat) (w : World) (cf : w.cell? ⟨Bf, 0, none⟩ = some (.int .i64 f)) (ct : w.cell? ⟨Bt, 0, none⟩ = some (.int .i64 t)) :
    Calls Try.prog 35 #[.agg #[.int .i64 c.sv, .int .i64 c.wk, .int .i64 c.th, .int .i64 c.fr, .int .i64 c.to, .int .i64 c.n], .pointer (some ⟨Bf, 0, none⟩), .pointer (some ⟨Bt, 0, none⟩)] w (Gives (.int .i64 (inWin f t c)) w) := by
  have lf : Bf < w.heap.size := cell_lt cf
  have lt : Bt < w.heap.size := cell_lt ct
  unfold inWin
  by_cases h1 : c.fr < f
  · have d1 : decide (c.fr < f) = true := decide_eq_true h1
    rw [if_pos (.inl h1)]
    clear h1
    go_enter Try.func35, Try.ntmps35
    go_wp2_with fail
    go_ret
    exact ⟨rfl, bel_alloc (Below.refl _ _)⟩
  · have d1 : decide (c.fr < f) = false := decide_eq_false h1
    by_cases h2 : t < c.to
    · have d2 : decide (t < c.to) = true := decide_eq_true h2
      rw [if_pos (.inr h2)]
      clear h1 h2
      go_enter Try.func35, Try.ntmps35
      go_wp2_with fail
      go_ret
      exact ⟨rfl, bel_alloc (Below.refl _ _)⟩
    · have d2 : decide (t < c.to) = false := decide_eq_false h2
      rw [if_neg (by omega)]
      clear h1 h2
      go_enter Try.func35, Try.ntmps35
      go_wp2_with fail
      go_ret
      exact ⟨rfl, bel_alloc (Below.refl _ _)⟩
theorem box_six {c : Chg} {w w' : World} (h : Below (w.alloc (.cells #[.int .i64 c.sv, .int .i64 c.wk, .int .i64 c.th, .int .i64 c.fr, .int .i64 c.to, .int .i64 c.n] 50)).heap.size (w.alloc (.cells #[.int .i64 c.sv, .int .i64 c.wk, .int .i64 c.th, .int .i64 c.fr, .int .i64 c.to, .int .i64 c.n] 50)) w') : w'.cell? ⟨w.heap.size, 0, none⟩ = some (.int .i64 c.sv) ∧ w'.cell? ⟨w.heap.size, 1, none⟩ = some (.int .i64 c.wk) ∧ w'.cell? ⟨w.heap.size, 2, none⟩ = some (.int .i64 c.th) ∧ w'.cell? ⟨w.heap.size, 3, none⟩ = some (.int .i64 c.fr) ∧ w'.cell? ⟨w.heap.size, 4, none⟩ = some (.int .i64 c.to) ∧ w'.cell? ⟨w.heap.size, 5, none⟩ = some (.int .i64 c.n) :=
  ⟨(h.cell (p := ⟨w.heap.size, 0, none⟩) (by simp)).trans (show _ = some (Value.int .i64 c.sv) by go_simp), (h.cell (p := ⟨w.heap.size, 1, none⟩) (by simp)).trans (show _ = some (Value.int .i64 c.wk) by go_simp), (h.cell (p := ⟨w.heap.size, 2, none⟩) (by simp)).trans (show _ = some (Value.int .i64 c.th) by go_simp), (h.cell (p := ⟨w.heap.size, 3, none⟩) (by simp)).trans (show _ = some (Value.int .i64 c.fr) by go_simp), (h.cell (p := ⟨w.heap.size, 4, none⟩) (by simp)).trans (show _ = some (Value.int .i64 c.to) by go_simp), (h.cell (p := ⟨w.heap.size, 5, none⟩) (by simp)).trans (show _ = some (Value.int .i64 c.n) by go_simp)⟩
set_option maxHeartbeats 2000000 in
theorem touch1 (c : Chg) (hc : Vld c) (f t : Int) (hf : Tm f) (ht : Tm t) (Bf Bt : Nat) (w : World) (cf : w.cell? ⟨Bf, 0, none⟩ = some (.int .i64 f)) (ct : w.cell? ⟨Bt, 0, none⟩ = some (.int .i64 t)) :
    Calls Try.prog 36 #[.agg #[.int .i64 c.sv, .int .i64 c.wk, .int .i64 c.th, .int .i64 c.fr, .int .i64 c.to, .int .i64 c.n], .pointer (some ⟨Bf, 0, none⟩), .pointer (some ⟨Bt, 0, none⟩)] w (Gives (.int .i64 (atWin f t c)) w) := by
  have lf : Bf < w.heap.size := cell_lt cf
  have lt : Bt < w.heap.size := cell_lt ct
  obtain ⟨_, _, _, _, _, _, u1, u2, u3, _⟩ := hc
  have BO := Lib.hid (both_any c f t ⟨by omega, by omega⟩ ⟨by omega, by omega⟩ hf ht)
  have hv : Hid (atWin f t c = min c.n (bothOf c.fr c.to f t)) := rfl
  generalize bothOf c.fr c.to f t = b at *
  have xf := cell_alloc (o := (.cells #[.int .i64 c.sv, .int .i64 c.wk, .int .i64 c.th, .int .i64 c.fr, .int .i64 c.to, .int .i64 c.n] 50)) cf
  have xt := cell_alloc (o := (.cells #[.int .i64 c.sv, .int .i64 c.wk, .int .i64 c.th, .int .i64 c.fr, .int .i64 c.to, .int .i64 c.n] 50)) ct
  have HF := Lib.hid (fun (w' : World) (h : Below (w.alloc (.cells #[.int .i64 c.sv, .int .i64 c.wk, .int .i64 c.th, .int .i64 c.fr, .int .i64 c.to, .int .i64 c.n] 50)).heap.size (w.alloc (.cells #[.int .i64 c.sv, .int .i64 c.wk, .int .i64 c.th, .int .i64 c.fr, .int .i64 c.to, .int .i64 c.n] 50)) w') => And.intro ((h.cell (p := ⟨Bf, 0, none⟩) (by simp; omega)).trans xf) ((h.cell (p := ⟨Bt, 0, none⟩) (by simp; omega)).trans xt))
  clear cf ct xf xt u1 u2 u3 hf ht
  go_enter Try.func36, Try.ntmps36
  go_upto_region 1 with fail
  go_cut [4] from 5 to 11 (fun s wx => s = .int .i64 (min c.n b) ∧ Below (w.alloc (.cells #[.int .i64 c.sv, .int .i64 c.wk, .int .i64 c.th, .int .i64 c.fr, .int .i64 c.to, .int .i64 c.n] 50)).heap.size (w.alloc (.cells #[.int .i64 c.sv, .int .i64 c.wk, .int .i64 c.th, .int .i64 c.fr, .int .i64 c.to, .int .i64 c.n] 50)) wx)
  case first =>
    have R0 : Below (w.alloc (.cells #[.int .i64 c.sv, .int .i64 c.wk, .int .i64 c.th, .int .i64 c.fr, .int .i64 c.to, .int .i64 c.n] 50)).heap.size (w.alloc (.cells #[.int .i64 c.sv, .int .i64 c.wk, .int .i64 c.th, .int .i64 c.fr, .int .i64 c.to, .int .i64 c.n] 50)) (w.alloc (.cells #[.int .i64 c.sv, .int .i64 c.wk, .int .i64 c.th, .int .i64 c.fr, .int .i64 c.to, .int .i64 c.n] 50)) := Below.refl _ _
    go_region_held3 (fun w' => (w'.cell? ⟨w.heap.size, 0, none⟩ = some (.int .i64 c.sv) ∧ w'.cell? ⟨w.heap.size, 1, none⟩ = some (.int .i64 c.wk) ∧ w'.cell? ⟨w.heap.size, 2, none⟩ = some (.int .i64 c.th) ∧ w'.cell? ⟨w.heap.size, 3, none⟩ = some (.int .i64 c.fr) ∧ w'.cell? ⟨w.heap.size, 4, none⟩ = some (.int .i64 c.to) ∧ w'.cell? ⟨w.heap.size, 5, none⟩ = some (.int .i64 c.n)) ∧ (w'.cell? ⟨Bf, 0, none⟩ = some (.int .i64 f) ∧ w'.cell? ⟨Bt, 0, none⟩ = some (.int .i64 t)) ∧ Below (w.alloc (.cells #[.int .i64 c.sv, .int .i64 c.wk, .int .i64 c.th, .int .i64 c.fr, .int .i64 c.to, .int .i64 c.n] 50)).heap.size (w.alloc (.cells #[.int .i64 c.sv, .int .i64 c.wk, .int .i64 c.th, .int .i64 c.fr, .int .i64 c.to, .int .i64 c.n] 50)) w')
      (first | exact ⟨box_six (by assumption), HF.out _ (by assumption), by assumption⟩ | exact ⟨box_six (bel_drew R0), HF.out _ (bel_drew R0), bel_drew R0⟩)
      (first
      | (go_at_call 37; go_split_ands; (with_reducible refine (BO.out _).mono ?_); rintro e w9 ⟨rfl, b9⟩; have R9 := bel_end (by assumption) b9))
    all_goals (go_split_ands; go_wp2_with fail)
    all_goals (try go_meet)
    all_goals (exact ⟨by first | rfl | exact int_eq (by omega), by assumption⟩)
  case rest =>
  obtain ⟨rfl, r3⟩ := hcut
  have HB := Lib.hid (bel_end (bel_alloc (Below.refl w.heap.size w)) r3)
  clear r3
  go_wp2_with fail
  go_ret
  exact ⟨ret1 (by rw [hv.out]; rfl), HB.out⟩
set_option maxHeartbeats 1000000 in
theorem busy1 (c : Chg) (hc : Vld c) (k f t : Int) (hf : Tm f) (ht : Tm t) (Bk Bf Bt : Nat) (w : World) (ck : w.cell? ⟨Bk, 0, none⟩ = some (.int .i64 k)) (cf : w.cell? ⟨Bf, 0, none⟩ = some (.int .i64 f)) (ct : w.cell? ⟨Bt, 0, none⟩ = some (.int .i64 t)) :
    Calls Try.prog 39 #[.agg #[.int .i64 c.sv, .int .i64 c.wk, .int .i64 c.th, .int .i64 c.fr, .int .i64 c.to, .int .i64 c.n], .pointer (some ⟨Bk, 0, none⟩), .pointer (some ⟨Bf, 0, none⟩), .pointer (some ⟨Bt, 0, none⟩)] w (Gives (.int .i64 (busyWin k f t c)) w) := by
  have lk : Bk < w.heap.size := cell_lt ck
  have lf : Bf < w.heap.size := cell_lt cf
  have lt : Bt < w.heap.size := cell_lt ct
  obtain ⟨_, _, _, _, _, _, u1, u2, u3, _⟩ := hc
  have BO := Lib.hid (both_any c f t ⟨by omega, by omega⟩ ⟨by omega, by omega⟩ hf ht)
  unfold busyWin
  generalize bothOf c.fr c.to f t = b at *
  clear u1 u2 u3 hf ht
  by_cases h1 : c.wk = k
  · have d1 : (c.wk == k) = true := by rw [beq_iff_eq]; exact h1
    have d2 : (c.wk != k) = false := by simp; exact h1
    rw [if_pos h1]
    clear h1
    go_enter Try.func39, Try.ntmps39
    go_wp2_with fail
    refine (BO.out _).mono ?_
    rintro e w1 ⟨rfl, b1⟩
    go_wp2_with fail
    go_ret
    exact ⟨rfl, bel_end (bel_alloc (Below.refl _ _)) b1⟩
  · have d1 : (c.wk == k) = false := by rw [beq_eq_false_iff_ne]; exact h1
    have d2 : (c.wk != k) = true := by rw [bne_iff_ne]; exact h1
    rw [if_neg h1]
    clear h1
    go_enter Try.func39, Try.ntmps39
    go_wp2_with fail
    go_ret
    exact ⟨rfl, bel_alloc (Below.refl _ _)⟩
end Go.Proofs.Ytfpifaccjfgfkaa
