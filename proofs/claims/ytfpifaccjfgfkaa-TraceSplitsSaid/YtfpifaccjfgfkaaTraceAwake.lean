/- That chapter 21's example holds. -/
import Derived.Test.YtfpifaccjfgfkaaTraceExcess
namespace Go.Proofs.Ytfpifaccjfgfkaa
open Go.ChangeShapes Go.WideShapes Go.ChangeAt Go.RowKit Go.Deep
attribute [local go_sem] Oper.semAt_some

def ex1 : VC := ⟨⟨1, 0, 0, 0, 4, 4⟩, by unfold Vld; simp⟩
def ex2 : VC := ⟨⟨1, 0, 0, 10, 12, 1⟩, by unfold Vld; simp⟩
theorem ex_order {ts : List VC} (h : ts.Perm [ex1, ex2]) (hu : Ups ts) : ts = [ex1, ex2] := by
  have hl : ts.length = 2 := h.length_eq
  obtain ⟨a, b, rfl⟩ : ∃ a b, ts = [a, b] := by
    cases ts with
    | nil => simp at hl
    | cons a l => cases l with
      | nil => simp at hl
      | cons b l => cases l with
        | nil => exact ⟨a, b, rfl⟩
        | cons c l => simp at hl
  have ha : a = ex1 ∨ a = ex2 := by
    have := h.mem_iff.1 (List.mem_cons_self (a := a) (l := [b]))
    rcases List.mem_cons.1 this with h1 | h1
    · exact .inl h1
    · exact .inr (List.mem_singleton.1 h1)
  rcases ha with rfl | rfl
  · have := (List.perm_cons ex1).1 h
    have := List.perm_singleton.1 this
    rw [this]
  · have := (List.perm_cons ex2).1 (h.trans (List.Perm.swap ex2 ex1 []))
    have := List.perm_singleton.1 this
    cases this
    have h2 : (10 : Int) ≤ 0 := hu 0 1 (by simp) (by simp) (by omega)
    exact absurd h2 (by decide)
theorem ex_calm : Calm ([ex1, ex2].map (·.1)) := by
  unfold Calm
  simp [ex1, ex2, Clash, bothOf]
  omega
theorem ex_add : addAll [] ([ex1, ex2].map (·.1)) = ([ex1, ex2].map (·.1), 0) := by rfl
set_option maxRecDepth 100000 in
set_option maxHeartbeats 4000000 in
theorem awake_true (w : World) : Calls Try.prog 9 #[] w (Gives (.bool true) w) := by
  have e1 : told 64 1 0 11 (sumOf (fun c => inWin 0 11 c.1) (ofServer 1 [ex1, ex2])) = .tuple #[.int .i64 4, .int .i64 0] := by rfl
  have e2 : told 64 1 2 11 (sumOf (fun c => atWin 2 11 c.1) (ofServer 1 [ex1, ex2])) = .tuple #[.int .i64 3, .int .i64 0] := by rfl
  have e3 : excTold 1 2 10 10 [ex1, ex2] = .tuple #[.int .i64 32, .int .i64 0] := by rfl
  have E1 := Lib.hid e1
  have E2 := Lib.hid e2
  have E3 := Lib.hid e3
  clear e1 e2 e3
  go_enter Try.func9, Try.ntmps9
  go_wp2_with fail
  refine (new_any w).mono ?_
  rintro e w1 ⟨rfl, hT, hb⟩
  have HT := Lib.hid (hT.base (B := w.heap.size))
  have HB := Lib.hid hb
  have hlt := hT.lt
  clear hT hb
  go_wp2_with fail
  have hrow : ChgRow (w1.alloc (.cells #[.int .i64 1, .int .i64 0, .int .i64 0, .int .i64 0, .int .i64 4, .int .i64 4, .int .i64 1, .int .i64 0, .int .i64 0, .int .i64 10, .int .i64 12, .int .i64 1] 50)) (.slice (some ⟨w1.heap.size, 0, none⟩) 2 2) ([ex1, ex2].map (·.1)) := by
    refine .inr ⟨w1.heap.size, 0, 2, rfl, by simp, by simp, fun j hj => ?_⟩
    match j, hj with
    | 0, _ => exact ⟨by simp [ex1], by simp [ex1], by simp [ex1], by simp [ex1], by simp [ex1], by simp [ex1]⟩
    | 1, _ => exact ⟨by simp [ex2], by simp [ex2], by simp [ex2], by simp [ex2], by simp [ex2], by simp [ex2]⟩
  have AD := add_any w.heap.size w.heap.size (.slice none 0 0) _ [] ([ex1, ex2].map (·.1)) _ (by have := HB.out.size; simp; omega) (HT.out.below (bel_alloc (Below.refl _ _))) hrow (fun b e => by
    have e' : w1.heap.size = b := by simpa [Value.ownBlock] using e
    subst e'
    exact ⟨by omega, by simp [Value.ownBlock]⟩) (fun c h => absurd h (by simp)) (by simp)
  unfold Added at AD
  rw [ex_add] at AD
  refine AD.mono ?_
  clear AD hrow
  rintro e w2 ⟨rfl, v2, hT, hO, _⟩
  have HT2 := Lib.hid hT
  have HB2 : Hid (Below w.heap.size w w2) := (HB.out.trans ((bel_alloc (Below.refl _ _)).mono HB.out.size)).trans (hO.below (by have := HB.out.size; simp; omega) (fun k hk => by
    rcases hk with rfl | hk
    · exact Nat.le_refl _
    · exact absurd hk (by simp [Value.ownBlock])))
  clear hT hO
  go_wp2_with fail
  refine (within_t_any w.heap.size w.heap.size v2 [ex1, ex2] 1 0 11 w2 (by simp) HT2.out).mono ?_
  rw [E1.out]
  rintro e w3 ⟨rfl, b3⟩
  have HT3 := Lib.hid (HT2.out.below b3)
  have HB3 := Lib.hid (HB2.out.trans (b3.mono HB2.out.size))
  clear b3
  go_wp2_with fail
  refine (touch_t_any w.heap.size w.heap.size v2 [ex1, ex2] 1 2 11 w3 (by simp) HT3.out).mono ?_
  rw [E2.out]
  rintro e w4 ⟨rfl, b4⟩
  have HT4 := Lib.hid (HT3.out.below b4)
  have HB4 := Lib.hid (HB3.out.trans (b4.mono HB3.out.size))
  clear b4
  go_wp2_with fail
  refine (exc_good w.heap.size w.heap.size v2 [ex1, ex2] 1 2 10 10 w4 (by rfl) (by unfold ParamsMay; omega) (by simp) HT4.out ex_calm).mono ?_
  rintro e w5 ⟨b5, ts, hp, hu, rfl⟩
  rw [ex_order hp hu, E3.out]
  have HB5 := Lib.hid (HB4.out.trans (b5.mono HB4.out.size))
  clear b5 hp hu
  go_wp2_with fail
  go_ret
  exact ⟨rfl, HB5.out⟩
end Go.Proofs.Ytfpifaccjfgfkaa
