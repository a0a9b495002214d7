/- A charge parted in two counts as one: plain numbers, no program. Each theorem's premises are its conditions. -/
import Derived.Test.YtfpifaccjfgfkaaTraceTotal
import Derived.Test.YtfpifaccjfgfkaaTraceWins
import Derived.Test.YtfpifaccjfgfkaaTraceLaws
namespace Go.Proofs.Ytfpifaccjfgfkaa
open Go.RowKit

def partA (c : Chg) (k : Int) : Chg := ⟨c.sv, c.wk, c.th, c.fr, c.fr + k, min c.n k⟩
def partB (c : Chg) (k : Int) : Chg := ⟨c.sv, c.wk, c.th, c.fr + k, c.to, c.n - min c.n k⟩
theorem partA_vld {c : Chg} {k : Int} (h : Vld c) (h1 : 1 ≤ k) (h2 : k < c.to - c.fr) : Vld (partA c k) := by
  obtain ⟨a1, a2, a3, a4, a5, a6, a7, a8, a9, b1, b2⟩ := h
  unfold partA Vld
  dsimp only
  omega
theorem partB_vld {c : Chg} {k : Int} (h : Vld c) (h1 : 1 ≤ k) (h2 : k < c.to - c.fr) : Vld (partB c k) := by
  obtain ⟨a1, a2, a3, a4, a5, a6, a7, a8, a9, b1, b2⟩ := h
  unfold partB Vld
  dsimp only
  omega
theorem partA_calm {o c : Chg} {k : Int} (h : Vld c) (h2 : k < c.to - c.fr) (hc : ¬ Clash o c) : ¬ Clash o (partA c k) := by
  obtain ⟨a1, a2, a3, a4, a5, a6, a7, a8, a9, b1, b2⟩ := h
  intro hx
  obtain ⟨x1, x2⟩ := hx
  refine hc ⟨x1, ?_⟩
  unfold partA bothOf at *
  dsimp only at x2
  omega
theorem partB_calm {o c : Chg} {k : Int} (h1 : 1 ≤ k) (hc : ¬ Clash o c) : ¬ Clash o (partB c k) := by
  intro hx
  obtain ⟨x1, x2⟩ := hx
  refine hc ⟨x1, ?_⟩
  unfold partB bothOf at *
  dsimp only at x2
  omega
theorem parts_calm {c : Chg} {k : Int} : ¬ Clash (partA c k) (partB c k) := by
  intro hx
  obtain ⟨_, x2⟩ := hx
  unfold partA partB bothOf at x2
  dsimp only at x2
  omega
theorem add_one {l : List Chg} {c : Chg} (h : (addAll l [c]).2 = 0) : Vld c ∧ (∀ o ∈ l, ¬ Clash o c) ∧ (addAll l [c]).1 = l ++ [c] := by
  obtain ⟨h1, h2, h3, _⟩ := addGo_zero l [c] l h
  exact ⟨h2 c (by simp), fun o ho => h3 c (by simp) o ho, h1⟩
theorem add_parts {l : List Chg} {c : Chg} {k : Int} (hv : Vld c) (hc : ∀ o ∈ l, ¬ Clash o c) (h1 : 1 ≤ k) (h2 : k < c.to - c.fr) : addAll l [partA c k, partB c k] = (l ++ [partA c k, partB c k], 0) := by
  refine addGo_ok l _ l ?_ ?_ ?_
  · intro x hx
    simp at hx
    rcases hx with rfl | rfl
    · exact partA_vld hv h1 h2
    · exact partB_vld hv h1 h2
  · intro x hx o ho
    simp at hx
    rcases hx with rfl | rfl
    · exact partA_calm hv h2 (hc o ho)
    · exact partB_calm h1 (hc o ho)
  · unfold Calm
    simp
    exact parts_calm
theorem of_app (s : Int) (a b : List VC) : ofServer s (a ++ b) = ofServer s a ++ ofServer s b := by unfold ofServer; rw [List.filter_append]
theorem sum_nonneg (f : VC → Int) (h : ∀ x, 0 ≤ f x) : ∀ l : List VC, 0 ≤ sumOf f l
  | [] => by simp [sumOf]
  | c :: l => by rw [sumOf]; have := h c; have := sum_nonneg f h l; omega
theorem split_within (ys : List VC) (c : Chg) (k : Int) (hv : Vld c) (h1 : 1 ≤ k) (h2 : k < c.to - c.fr) :
    sumOf (fun z => inWin c.fr c.to z.1) (ofServer c.sv (ys ++ [⟨partA c k, partA_vld hv h1 h2⟩, ⟨partB c k, partB_vld hv h1 h2⟩])) = sumOf (fun z => inWin c.fr c.to z.1) (ofServer c.sv (ys ++ [⟨c, hv⟩])) ∧ c.n ≤ sumOf (fun z => inWin c.fr c.to z.1) (ofServer c.sv (ys ++ [⟨c, hv⟩])) := by
  obtain ⟨a1, a2, a3, a4, a5, a6, a7, a8, a9, b1, b2⟩ := id hv
  have h0 := sum_nonneg (fun z => inWin c.fr c.to z.1) (fun x => (inWin_bound c.fr c.to x).1) (ofServer c.sv ys)
  rw [of_app, of_app, sumOf_app, sumOf_app]
  have e1 : sumOf (fun z : VC => inWin c.fr c.to z.1) (ofServer c.sv [⟨c, hv⟩]) = c.n := by
    simp [ofServer, sumOf, inWin]
  have e2 : sumOf (fun z : VC => inWin c.fr c.to z.1) (ofServer c.sv [⟨partA c k, partA_vld hv h1 h2⟩, ⟨partB c k, partB_vld hv h1 h2⟩]) = c.n := by
    simp only [ofServer, sumOf, inWin, partA, partB, decide_true, List.filter_cons_of_pos, List.filter_nil]
    rw [if_neg (by omega), if_neg (by omega)]
    omega
  rw [e1, e2]
  exact ⟨rfl, by omega⟩
theorem split_busy (ys : List VC) (c : Chg) (k : Int) (hv : Vld c) (h1 : 1 ≤ k) (h2 : k < c.to - c.fr) :
    sumOf (fun z => busyWin c.wk (c.fr + k) c.to z.1) (ys ++ [⟨partA c k, partA_vld hv h1 h2⟩, ⟨partB c k, partB_vld hv h1 h2⟩]) = sumOf (fun z => busyWin c.wk (c.fr + k) c.to z.1) (ys ++ [⟨c, hv⟩]) := by
  obtain ⟨a1, a2, a3, a4, a5, a6, a7, a8, a9, b1, b2⟩ := id hv
  rw [sumOf_app, sumOf_app]
  simp only [sumOf, busyWin, partA, partB, if_true, bothOf]
  omega
theorem filter_put {H : Type} (q : Lit × DataW H → Bool) (x : Lit × DataW H) (hx : q x = false) : ∀ l, (DataW.insert x l).filter q = l.filter q
  | [] => by simp [DataW.insert, hx]
  | y :: r => by
    unfold DataW.insert
    split
    · rw [List.filter_cons_of_neg (by rw [hx]; decide)]
    · rw [List.filter_cons, List.filter_cons, filter_put q x hx r]
theorem put_put {H : Type} {D : DataW H} (hD : Maps.IsMap D) {k : Lit} (hk : k.sameKey k = true) (a b : DataW H) : (D.put k a).put k b = D.put k b := by
  obtain ⟨es, rfl⟩ := hD
  show DataW.map (DataW.insert (k, b) ((DataW.insert (k, a) (es.filter fun p => !p.1.sameKey k)).filter fun p => !p.1.sameKey k)) = _
  rw [filter_put (fun p : Lit × DataW H => !p.1.sameKey k) (k, a) (by simp [hk]), List.filter_filter]
  simp only [Bool.and_self]
  rfl
theorem totD_isMap {H : Type} (ys : List VC) : Maps.IsMap (totD (H := H) ys) := by
  have : ∀ (l : List VC) (D : DataW H), Maps.IsMap D → Maps.IsMap (l.foldl (fun D x => bumpD D x.1) D) := by
    intro l
    induction l with
    | nil => exact fun D h => h
    | cons x l ih => exact fun D h => ih _ (h.put _ _)
  exact this ys _ Maps.isMap_empty
theorem totD_app {H : Type} (ys : List VC) (x y : VC) : totD (H := H) (ys ++ [x, y]) = bumpD (bumpD (totD ys) x.1) y.1 := by simp [totD]
theorem split_total {H : Type} (ys : List VC) (c : Chg) (k : Int) (hv : Vld c) (h1 : 1 ≤ k) (h2 : k < c.to - c.fr) :
    totD (H := H) (ys ++ [⟨partA c k, partA_vld hv h1 h2⟩, ⟨partB c k, partB_vld hv h1 h2⟩]) = totD (ys ++ [⟨c, hv⟩]) := by
  rw [totD_app, totD_snoc]
  have hm := totD_isMap (H := H) ys
  generalize totD ys = D at *
  have hs : Lit.sameKey (.int .i64 c.sv) (.int .i64 c.sv) = true := by simp [Lit.sameKey]
  unfold bumpD partA partB
  dsimp only
  rw [Maps.atKey_put_same hm (by first | exact trivial | exact ⟨_, _, rfl⟩ | simp [WideAt.IsKeyLit])]
  rw [put_put hm hs]
  generalize numD (D.atKey (.int .i64 c.sv) (.lit (.int .i64 0))) = X
  congr 3
  unfold numD wrap64
  dsimp only
  omega
end Go.Proofs.Ytfpifaccjfgfkaa
