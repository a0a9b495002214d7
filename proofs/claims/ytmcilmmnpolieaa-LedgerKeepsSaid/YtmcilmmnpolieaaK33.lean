/- LedgerKeeps answers true at every calls and every call. No condition. What a ledger tells, in one for each: where a server is, a domain's rule, how much it owes. The chapter's example: it goes as it is told. What ledger.Owed and ledger.Workers tell. A ledger of three workers behind calls. A call with both, the ledger and the document's answer. A call with both, the ledger and the document's answer. A call with both, the ledger and the document's answer. A ledger and the document's answer, side by side in memory. Each theorem's premises are its conditions; the statement's own theorem has none. -/
import Derived.Test.YtmcilmmnpolieaaK18
import Derived.Test.YtmcilmmnpolieaaK26
import Derived.Test.YtmcilmmnpolieaaK27
import Derived.Test.YtmcilmmnpolieaaK28
import Derived.Test.YtmcilmmnpolieaaK29
import Derived.Test.YtmcilmmnpolieaaK30
import Derived.Test.YtmcilmmnpolieaaK32
import Derived.Deep.CutBlock
import Derived.Deep.DeepCutAuto
/- A ledger and the document's answer, side by side in memory. Each theorem's premises are its conditions. -/
namespace Go.Proofs.Ytmcilmmnpolieaa
open Go.ChangeShapes Go.WideShapes Go.ChangeAt Go.RowKit Go.Shelf Go.Deep

structure Duo (w : World) (L : Lay) (st : LS) (X : XLay) (s : XS) : Prop where
  l : LAt w L st
  x : XAt w X s
  dis : ∀ k, L.role k ≠ none → X.role k ≠ none → False
structure DNext (w : World) (L : Lay) (X : XLay) (w' : World) (L' : Lay) (X' : XLay) : Prop where
  g : L'.g = L.g
  xg : X'.g = X.g
  only : Only w w' fun k => L.role k ≠ none ∨ X.role k ≠ none
  role : ∀ k, L'.role k ≠ none ∨ X'.role k ≠ none → (L.role k ≠ none ∨ X.role k ≠ none) ∨ w.heap.size ≤ k
section
variable {w w' : World} {L L' : Lay} {X X' : XLay} {st st' : LS} {s s' : XS}
theorem Duo.below (h : Duo w L st X s) (k : Below w.heap.size w w') : Duo w' L st X s := ⟨h.l.below k, h.x.below k, h.dis⟩
theorem DNext.of_below (L : Lay) (X : XLay) (h : Below w.heap.size w w') : DNext w L X w' L X := ⟨rfl, rfl, Only.of_below h, fun _ h => .inl h⟩
theorem DNext.trans {w'' : World} {L'' : Lay} {X'' : XLay} (h : DNext w L X w' L' X') (k : DNext w' L' X' w'' L'' X'') : DNext w L X w'' L'' X'' :=
  ⟨k.g.trans h.g, k.xg.trans h.xg, h.only.trans k.only fun i hi hlt => (h.role i hi).resolve_right (by omega), fun i hi => by
    rcases k.role i hi with h1 | h1
    · exact h.role i h1
    · exact .inr (Nat.le_trans h.only.size h1)⟩
theorem Duo.led (h : Duo w L st X s) (k : LAt w' L' st') (n : Next w L w' L') : Duo w' L' st' X s ∧ DNext w L X w' L' X := by
  refine ⟨⟨k, h.x.keep n.only fun b hb hl => h.dis b hl hb, fun b hb hx => ?_⟩, ⟨n.g, rfl, ⟨n.only.os, n.only.tape, n.only.output, n.only.size, fun b hb hs => n.only.block b hb fun e => hs (.inl e)⟩, fun b hb => ?_⟩⟩
  · rcases n.role b hb with h1 | h1
    · exact h.dis b h1 hx
    · have := h.x.lt b hx; omega
  · rcases hb with hb | hb
    · exact (n.role b hb).imp .inl id
    · exact .inl (.inr hb)
theorem Duo.ref (h : Duo w L st X s) (k : XAt w' X' s') (n : XNext w X w' X') : Duo w' L st X' s' ∧ DNext w L X w' L X' := by
  refine ⟨⟨h.l.keep n.only fun b hb hx => h.dis b hb hx, k, fun b hb hx => ?_⟩, ⟨rfl, n.g, ⟨n.only.os, n.only.tape, n.only.output, n.only.size, fun b hb hs => n.only.block b hb fun e => hs (.inr e)⟩, fun b hb => ?_⟩⟩
  · rcases n.role b hx with h1 | h1
    · exact h.dis b hb h1
    · have := h.l.lt b hb; omega
  · rcases hb with hb | hb
    · exact .inl (.inl hb)
    · exact (n.role b hb).imp .inr id
/-- a block of neither is as it was. -/
theorem DNext.same (h : DNext w L X w' L' X') {b : Nat} (hb : b < w.heap.size) (hl : L.role b = none) (hx : X.role b = none) : Same w w' b := h.only.block b hb (fun e => e.elim (fun e => e hl) (fun e => e hx))
/-- behind a call with both. -/
def Did (w : World) (L : Lay) (X : XLay) (s : XS) (st' : LS) (e : Ending) (w' : World) : Prop := (∃ b : Bool, e = .returned (.bool b)) ∧ ∃ L' X' s', Duo w' L' st' X' s' ∧ DNext w L X w' L' X' ∧ s'.cnt ≤ s.cnt + 1
theorem Duo.none (h : Duo w L st X s) : L.role w.heap.size = none ∧ X.role w.heap.size = none := by
  constructor
  · cases hr : L.role w.heap.size with
    | none => rfl
    | some r => have := h.l.lt w.heap.size (by rw [hr]; exact fun e => by cases e); omega
  · cases hr : X.role w.heap.size with
    | none => rfl
    | some r => have := h.x.lt w.heap.size (by rw [hr]; exact fun e => by cases e); omega
/-- the value of a call. -/
def opval (o : LOp) : Value := .agg #[.int .i64 o.ask, .int .i64 o.id, .int .i64 o.d, .int .i64 o.tm, .int .i64 o.p.1, .int .i64 o.p.2.1, .int .i64 o.p.2.2, .bool o.hard]
end
end Go.Proofs.Ytmcilmmnpolieaa
/- A call with both, the ledger and the document's answer. Each theorem's premises are its conditions. -/
namespace Go.Proofs.Ytmcilmmnpolieaa
open Go.ChangeShapes Go.WideShapes Go.ChangeAt Go.RowKit Go.Shelf Go.Deep

section
variable {w : World} {L : Lay} {X : XLay} {st : LS} {s : XS} {n : Nat}
set_option maxHeartbeats 4000000 in
theorem does_0 (h : Duo w L st X s) (ho : LOk st n) (hn : n ≤ 60) (hc : s.cnt ≤ 900) (id d tm p1 p2 p3 : Int) (hard : Bool) : Calls Try.prog 27 #[.pointer (some ⟨L.g, 0, none⟩), .pointer (some ⟨X.g, 0, none⟩), opval ⟨0, id, d, tm, (p1, p2, p3), hard⟩] w (Did w L X s (joinS st id d (p1, p2, p3)).1) := by
  unfold opval
  simp only
  have b1 := bel_alloc (Below.refl w.heap.size w) (o := (.cells #[.int .i64 0, .int .i64 id, .int .i64 d, .int .i64 tm, .int .i64 p1, .int .i64 p2, .int .i64 p3, .bool hard] 26))
  have hD := h.below b1
  have hN := h.none
  have HD := Lib.hid hD
  have HR := Lib.hid hN
  have HB := Lib.hid b1
  have HO := Lib.hid ho
  have HN60 := Lib.hid hn
  have HC := Lib.hid hc
  have lB : w.heap.size < (w.alloc (.cells #[.int .i64 0, .int .i64 id, .int .i64 d, .int .i64 tm, .int .i64 p1, .int .i64 p2, .int .i64 p3, .bool hard] 26)).heap.size := by simp
  have R0 := Below.refl (w.alloc (.cells #[.int .i64 0, .int .i64 id, .int .i64 d, .int .i64 tm, .int .i64 p1, .int .i64 p2, .int .i64 p3, .bool hard] 26)).heap.size (w.alloc (.cells #[.int .i64 0, .int .i64 id, .int .i64 d, .int .i64 tm, .int .i64 p1, .int .i64 p2, .int .i64 p3, .bool hard] 26))
  have c1 : (w.alloc (.cells #[.int .i64 0, .int .i64 id, .int .i64 d, .int .i64 tm, .int .i64 p1, .int .i64 p2, .int .i64 p3, .bool hard] 26)).cell? ⟨w.heap.size, 1, none⟩ = some (.int .i64 id) := by go_simp
  have c2 : (w.alloc (.cells #[.int .i64 0, .int .i64 id, .int .i64 d, .int .i64 tm, .int .i64 p1, .int .i64 p2, .int .i64 p3, .bool hard] 26)).cell? ⟨w.heap.size, 2, none⟩ = some (.int .i64 d) := by go_simp
  have c4 : (w.alloc (.cells #[.int .i64 0, .int .i64 id, .int .i64 d, .int .i64 tm, .int .i64 p1, .int .i64 p2, .int .i64 p3, .bool hard] 26)).cell? ⟨w.heap.size, 4, none⟩ = some (.int .i64 p1) := by go_simp
  have c5 : (w.alloc (.cells #[.int .i64 0, .int .i64 id, .int .i64 d, .int .i64 tm, .int .i64 p1, .int .i64 p2, .int .i64 p3, .bool hard] 26)).cell? ⟨w.heap.size, 5, none⟩ = some (.int .i64 p2) := by go_simp
  have c6 : (w.alloc (.cells #[.int .i64 0, .int .i64 id, .int .i64 d, .int .i64 tm, .int .i64 p1, .int .i64 p2, .int .i64 p3, .bool hard] 26)).cell? ⟨w.heap.size, 6, none⟩ = some (.int .i64 p3) := by go_simp
  have LC := Lib.hid (fun (W : World) (HJ : LAt W L st) => join_any HJ ho (by omega) id d (p1, p2, p3))
  have XC := Lib.hid (fun (W : World) (HX : XAt W X s) => xjoin_any HX hc id d (p1, p2, p3))
  obtain ⟨g, hg⟩ : ∃ g, g = L.g := ⟨_, rfl⟩
  obtain ⟨gx, hgx⟩ : ∃ gx, gx = X.g := ⟨_, rfl⟩
  rw [← hg] at LC ⊢
  rw [← hgx] at XC ⊢
  clear h hD hN b1 ho hc hg hgx hn
  go_enter Try.func27, Try.ntmps27
  go_wp2_with fail
  have sd : Same (w.alloc (.cells #[.int .i64 0, .int .i64 id, .int .i64 d, .int .i64 tm, .int .i64 p1, .int .i64 p2, .int .i64 p3, .bool hard] 26)) (w.alloc (.cells #[.int .i64 0, .int .i64 id, .int .i64 d, .int .i64 tm, .int .i64 p1, .int .i64 p2, .int .i64 p3, .bool hard] 26)).drew w.heap.size := rfl
  go_region_held3 (fun w' => w'.cell? ⟨w.heap.size, 1, none⟩ = some (.int .i64 id) ∧ w'.cell? ⟨w.heap.size, 2, none⟩ = some (.int .i64 d) ∧ w'.cell? ⟨w.heap.size, 4, none⟩ = some (.int .i64 p1) ∧ w'.cell? ⟨w.heap.size, 5, none⟩ = some (.int .i64 p2) ∧ w'.cell? ⟨w.heap.size, 6, none⟩ = some (.int .i64 p3))
    (first | exact ⟨c1, c2, c4, c5, c6⟩ | (refine ⟨?_, ?_, ?_, ?_, ?_⟩ <;> assumption))
    (first
      | (go_at_call 9; refine (LC.out _ (HD.out.below R0.drew).l).mono ?_; rintro e w9 ⟨rfl, L9, l9, n9⟩; have D9 := (HD.out.below R0.drew).led l9 n9; have s9 : Same (w.alloc (.cells #[.int .i64 0, .int .i64 id, .int .i64 d, .int .i64 tm, .int .i64 p1, .int .i64 p2, .int .i64 p3, .bool hard] 26)) w9 w.heap.size := (D9.2.same (by simp) HR.out.1 HR.out.2).trans sd; have c1 := (s9.cell 1).trans c1; have c2 := (s9.cell 2).trans c2; have c4 := (s9.cell 4).trans c4; have c5 := (s9.cell 5).trans c5; have c6 := (s9.cell 6).trans c6)
      | (go_at_call 45; refine (XC.out _ D9.1.x).mono ?_; rintro e w10 ⟨⟨z, rfl⟩, X10, s10, x10, n10, k10, m10⟩; have D10 := D9.1.ref x10 n10; have t10 : Same w9 w10 w.heap.size := n10.only.block w.heap.size (Nat.lt_of_lt_of_le lB D9.2.only.size) (fun e => e HR.out.2); have c1 := (t10.cell 1).trans c1; have c2 := (t10.cell 2).trans c2; have c4 := (t10.cell 4).trans c4; have c5 := (t10.cell 5).trans c5; have c6 := (t10.cell 6).trans c6)
      | fail)
  all_goals go_wp2_with fail
  all_goals go_ret
  all_goals exact ⟨⟨_, rfl⟩, L9, X10, s10, D10.1, ((DNext.of_below L X HB.out).trans ((DNext.of_below L X R0.drew).trans (D9.2.trans D10.2))), k10⟩
set_option maxHeartbeats 4000000 in
theorem does_1 (h : Duo w L st X s) (ho : LOk st n) (hn : n ≤ 60) (hc : s.cnt ≤ 900) (id d tm p1 p2 p3 : Int) (hard : Bool) : Calls Try.prog 27 #[.pointer (some ⟨L.g, 0, none⟩), .pointer (some ⟨X.g, 0, none⟩), opval ⟨1, id, d, tm, (p1, p2, p3), hard⟩] w (Did w L X s (changeS st id (p1, p2, p3)).1) := by
  unfold opval
  simp only
  have b1 := bel_alloc (Below.refl w.heap.size w) (o := (.cells #[.int .i64 1, .int .i64 id, .int .i64 d, .int .i64 tm, .int .i64 p1, .int .i64 p2, .int .i64 p3, .bool hard] 26))
  have hD := h.below b1
  have hN := h.none
  have HD := Lib.hid hD
  have HR := Lib.hid hN
  have HB := Lib.hid b1
  have HO := Lib.hid ho
  have HN60 := Lib.hid hn
  have HC := Lib.hid hc
  have lB : w.heap.size < (w.alloc (.cells #[.int .i64 1, .int .i64 id, .int .i64 d, .int .i64 tm, .int .i64 p1, .int .i64 p2, .int .i64 p3, .bool hard] 26)).heap.size := by simp
  have R0 := Below.refl (w.alloc (.cells #[.int .i64 1, .int .i64 id, .int .i64 d, .int .i64 tm, .int .i64 p1, .int .i64 p2, .int .i64 p3, .bool hard] 26)).heap.size (w.alloc (.cells #[.int .i64 1, .int .i64 id, .int .i64 d, .int .i64 tm, .int .i64 p1, .int .i64 p2, .int .i64 p3, .bool hard] 26))
  have c1 : (w.alloc (.cells #[.int .i64 1, .int .i64 id, .int .i64 d, .int .i64 tm, .int .i64 p1, .int .i64 p2, .int .i64 p3, .bool hard] 26)).cell? ⟨w.heap.size, 1, none⟩ = some (.int .i64 id) := by go_simp
  have c4 : (w.alloc (.cells #[.int .i64 1, .int .i64 id, .int .i64 d, .int .i64 tm, .int .i64 p1, .int .i64 p2, .int .i64 p3, .bool hard] 26)).cell? ⟨w.heap.size, 4, none⟩ = some (.int .i64 p1) := by go_simp
  have c5 : (w.alloc (.cells #[.int .i64 1, .int .i64 id, .int .i64 d, .int .i64 tm, .int .i64 p1, .int .i64 p2, .int .i64 p3, .bool hard] 26)).cell? ⟨w.heap.size, 5, none⟩ = some (.int .i64 p2) := by go_simp
  have c6 : (w.alloc (.cells #[.int .i64 1, .int .i64 id, .int .i64 d, .int .i64 tm, .int .i64 p1, .int .i64 p2, .int .i64 p3, .bool hard] 26)).cell? ⟨w.heap.size, 6, none⟩ = some (.int .i64 p3) := by go_simp
  have LC := Lib.hid (fun (W : World) (HJ : LAt W L st) => change_any HJ ho (by omega) id (p1, p2, p3))
  have XC := Lib.hid (fun (W : World) (HX : XAt W X s) => xchange_any HX hc id (p1, p2, p3))
  obtain ⟨g, hg⟩ : ∃ g, g = L.g := ⟨_, rfl⟩
  obtain ⟨gx, hgx⟩ : ∃ gx, gx = X.g := ⟨_, rfl⟩
  rw [← hg] at LC ⊢
  rw [← hgx] at XC ⊢
  clear h hD hN b1 ho hc hg hgx hn
  go_enter Try.func27, Try.ntmps27
  go_wp2_with fail
  have sd : Same (w.alloc (.cells #[.int .i64 1, .int .i64 id, .int .i64 d, .int .i64 tm, .int .i64 p1, .int .i64 p2, .int .i64 p3, .bool hard] 26)) (w.alloc (.cells #[.int .i64 1, .int .i64 id, .int .i64 d, .int .i64 tm, .int .i64 p1, .int .i64 p2, .int .i64 p3, .bool hard] 26)).drew w.heap.size := rfl
  go_region_held3 (fun w' => w'.cell? ⟨w.heap.size, 1, none⟩ = some (.int .i64 id) ∧ w'.cell? ⟨w.heap.size, 4, none⟩ = some (.int .i64 p1) ∧ w'.cell? ⟨w.heap.size, 5, none⟩ = some (.int .i64 p2) ∧ w'.cell? ⟨w.heap.size, 6, none⟩ = some (.int .i64 p3))
    (first | exact ⟨c1, c4, c5, c6⟩ | (refine ⟨?_, ?_, ?_, ?_⟩ <;> assumption))
    (first
      | (go_at_call 10; refine (LC.out _ (HD.out.below R0.drew).l).mono ?_; rintro e w9 ⟨rfl, L9, l9, n9⟩; have D9 := (HD.out.below R0.drew).led l9 n9; have s9 : Same (w.alloc (.cells #[.int .i64 1, .int .i64 id, .int .i64 d, .int .i64 tm, .int .i64 p1, .int .i64 p2, .int .i64 p3, .bool hard] 26)) w9 w.heap.size := (D9.2.same (by simp) HR.out.1 HR.out.2).trans sd; have c1 := (s9.cell 1).trans c1; have c4 := (s9.cell 4).trans c4; have c5 := (s9.cell 5).trans c5; have c6 := (s9.cell 6).trans c6)
      | (go_at_call 46; refine (XC.out _ D9.1.x).mono ?_; rintro e w10 ⟨⟨z, rfl⟩, X10, s10, x10, n10, k10, m10⟩; have D10 := D9.1.ref x10 n10; have t10 : Same w9 w10 w.heap.size := n10.only.block w.heap.size (Nat.lt_of_lt_of_le lB D9.2.only.size) (fun e => e HR.out.2); have c1 := (t10.cell 1).trans c1; have c4 := (t10.cell 4).trans c4; have c5 := (t10.cell 5).trans c5; have c6 := (t10.cell 6).trans c6)
      | fail)
  all_goals go_wp2_with fail
  all_goals go_ret
  all_goals exact ⟨⟨_, rfl⟩, L9, X10, s10, D10.1, ((DNext.of_below L X HB.out).trans ((DNext.of_below L X R0.drew).trans (D9.2.trans D10.2))), k10⟩
set_option maxHeartbeats 4000000 in
theorem does_2 (h : Duo w L st X s) (ho : LOk st n) (hn : n ≤ 60) (hc : s.cnt ≤ 900) (id d tm p1 p2 p3 : Int) (hard : Bool) : Calls Try.prog 27 #[.pointer (some ⟨L.g, 0, none⟩), .pointer (some ⟨X.g, 0, none⟩), opval ⟨2, id, d, tm, (p1, p2, p3), hard⟩] w (Did w L X s (leaveS st id tm).1) := by
  unfold opval
  simp only
  have b1 := bel_alloc (Below.refl w.heap.size w) (o := (.cells #[.int .i64 2, .int .i64 id, .int .i64 d, .int .i64 tm, .int .i64 p1, .int .i64 p2, .int .i64 p3, .bool hard] 26))
  have hD := h.below b1
  have hN := h.none
  have HD := Lib.hid hD
  have HR := Lib.hid hN
  have HB := Lib.hid b1
  have HO := Lib.hid ho
  have HN60 := Lib.hid hn
  have HC := Lib.hid hc
  have lB : w.heap.size < (w.alloc (.cells #[.int .i64 2, .int .i64 id, .int .i64 d, .int .i64 tm, .int .i64 p1, .int .i64 p2, .int .i64 p3, .bool hard] 26)).heap.size := by simp
  have R0 := Below.refl (w.alloc (.cells #[.int .i64 2, .int .i64 id, .int .i64 d, .int .i64 tm, .int .i64 p1, .int .i64 p2, .int .i64 p3, .bool hard] 26)).heap.size (w.alloc (.cells #[.int .i64 2, .int .i64 id, .int .i64 d, .int .i64 tm, .int .i64 p1, .int .i64 p2, .int .i64 p3, .bool hard] 26))
  have c1 : (w.alloc (.cells #[.int .i64 2, .int .i64 id, .int .i64 d, .int .i64 tm, .int .i64 p1, .int .i64 p2, .int .i64 p3, .bool hard] 26)).cell? ⟨w.heap.size, 1, none⟩ = some (.int .i64 id) := by go_simp
  have c3 : (w.alloc (.cells #[.int .i64 2, .int .i64 id, .int .i64 d, .int .i64 tm, .int .i64 p1, .int .i64 p2, .int .i64 p3, .bool hard] 26)).cell? ⟨w.heap.size, 3, none⟩ = some (.int .i64 tm) := by go_simp
  have LC := Lib.hid (fun (W : World) (HJ : LAt W L st) => leave_any HJ ho (by omega) id tm)
  have XC := Lib.hid (fun (W : World) (HX : XAt W X s) => xleave_any HX hc id tm)
  obtain ⟨g, hg⟩ : ∃ g, g = L.g := ⟨_, rfl⟩
  obtain ⟨gx, hgx⟩ : ∃ gx, gx = X.g := ⟨_, rfl⟩
  rw [← hg] at LC ⊢
  rw [← hgx] at XC ⊢
  clear h hD hN b1 ho hc hg hgx hn
  go_enter Try.func27, Try.ntmps27
  go_wp2_with fail
  have sd : Same (w.alloc (.cells #[.int .i64 2, .int .i64 id, .int .i64 d, .int .i64 tm, .int .i64 p1, .int .i64 p2, .int .i64 p3, .bool hard] 26)) (w.alloc (.cells #[.int .i64 2, .int .i64 id, .int .i64 d, .int .i64 tm, .int .i64 p1, .int .i64 p2, .int .i64 p3, .bool hard] 26)).drew w.heap.size := rfl
  go_region_held3 (fun w' => w'.cell? ⟨w.heap.size, 1, none⟩ = some (.int .i64 id) ∧ w'.cell? ⟨w.heap.size, 3, none⟩ = some (.int .i64 tm))
    (first | exact ⟨c1, c3⟩ | (refine ⟨?_, ?_⟩ <;> assumption))
    (first
      | (go_at_call 11; refine (LC.out _ (HD.out.below R0.drew).l).mono ?_; rintro e w9 ⟨rfl, L9, l9, n9⟩; have D9 := (HD.out.below R0.drew).led l9 n9; have s9 : Same (w.alloc (.cells #[.int .i64 2, .int .i64 id, .int .i64 d, .int .i64 tm, .int .i64 p1, .int .i64 p2, .int .i64 p3, .bool hard] 26)) w9 w.heap.size := (D9.2.same (by simp) HR.out.1 HR.out.2).trans sd; have c1 := (s9.cell 1).trans c1; have c3 := (s9.cell 3).trans c3)
      | (go_at_call 47; refine (XC.out _ D9.1.x).mono ?_; rintro e w10 ⟨⟨z, rfl⟩, X10, s10, x10, n10, k10, m10⟩; have D10 := D9.1.ref x10 n10; have t10 : Same w9 w10 w.heap.size := n10.only.block w.heap.size (Nat.lt_of_lt_of_le lB D9.2.only.size) (fun e => e HR.out.2); have c1 := (t10.cell 1).trans c1; have c3 := (t10.cell 3).trans c3)
      | fail)
  all_goals go_wp2_with fail
  all_goals go_ret
  all_goals exact ⟨⟨_, rfl⟩, L9, X10, s10, D10.1, ((DNext.of_below L X HB.out).trans ((DNext.of_below L X R0.drew).trans (D9.2.trans D10.2))), k10⟩
set_option maxHeartbeats 4000000 in
theorem does_3 (h : Duo w L st X s) (ho : LOk st n) (hn : n ≤ 60) (hc : s.cnt ≤ 900) (id d tm p1 p2 p3 : Int) (hard : Bool) : Calls Try.prog 27 #[.pointer (some ⟨L.g, 0, none⟩), .pointer (some ⟨X.g, 0, none⟩), opval ⟨3, id, d, tm, (p1, p2, p3), hard⟩] w (Did w L X s (moveS st id d tm).1) := by
  unfold opval
  simp only
  have b1 := bel_alloc (Below.refl w.heap.size w) (o := (.cells #[.int .i64 3, .int .i64 id, .int .i64 d, .int .i64 tm, .int .i64 p1, .int .i64 p2, .int .i64 p3, .bool hard] 26))
  have hD := h.below b1
  have hN := h.none
  have HD := Lib.hid hD
  have HR := Lib.hid hN
  have HB := Lib.hid b1
  have HO := Lib.hid ho
  have HN60 := Lib.hid hn
  have HC := Lib.hid hc
  have lB : w.heap.size < (w.alloc (.cells #[.int .i64 3, .int .i64 id, .int .i64 d, .int .i64 tm, .int .i64 p1, .int .i64 p2, .int .i64 p3, .bool hard] 26)).heap.size := by simp
  have R0 := Below.refl (w.alloc (.cells #[.int .i64 3, .int .i64 id, .int .i64 d, .int .i64 tm, .int .i64 p1, .int .i64 p2, .int .i64 p3, .bool hard] 26)).heap.size (w.alloc (.cells #[.int .i64 3, .int .i64 id, .int .i64 d, .int .i64 tm, .int .i64 p1, .int .i64 p2, .int .i64 p3, .bool hard] 26))
  have c1 : (w.alloc (.cells #[.int .i64 3, .int .i64 id, .int .i64 d, .int .i64 tm, .int .i64 p1, .int .i64 p2, .int .i64 p3, .bool hard] 26)).cell? ⟨w.heap.size, 1, none⟩ = some (.int .i64 id) := by go_simp
  have c2 : (w.alloc (.cells #[.int .i64 3, .int .i64 id, .int .i64 d, .int .i64 tm, .int .i64 p1, .int .i64 p2, .int .i64 p3, .bool hard] 26)).cell? ⟨w.heap.size, 2, none⟩ = some (.int .i64 d) := by go_simp
  have c3 : (w.alloc (.cells #[.int .i64 3, .int .i64 id, .int .i64 d, .int .i64 tm, .int .i64 p1, .int .i64 p2, .int .i64 p3, .bool hard] 26)).cell? ⟨w.heap.size, 3, none⟩ = some (.int .i64 tm) := by go_simp
  have LC := Lib.hid (fun (W : World) (HJ : LAt W L st) => move_any HJ ho (by omega) id d tm)
  have XC := Lib.hid (fun (W : World) (HX : XAt W X s) => xmove_any HX hc id d tm)
  obtain ⟨g, hg⟩ : ∃ g, g = L.g := ⟨_, rfl⟩
  obtain ⟨gx, hgx⟩ : ∃ gx, gx = X.g := ⟨_, rfl⟩
  rw [← hg] at LC ⊢
  rw [← hgx] at XC ⊢
  clear h hD hN b1 ho hc hg hgx hn
  go_enter Try.func27, Try.ntmps27
  go_wp2_with fail
  have sd : Same (w.alloc (.cells #[.int .i64 3, .int .i64 id, .int .i64 d, .int .i64 tm, .int .i64 p1, .int .i64 p2, .int .i64 p3, .bool hard] 26)) (w.alloc (.cells #[.int .i64 3, .int .i64 id, .int .i64 d, .int .i64 tm, .int .i64 p1, .int .i64 p2, .int .i64 p3, .bool hard] 26)).drew w.heap.size := rfl
  go_region_held3 (fun w' => w'.cell? ⟨w.heap.size, 1, none⟩ = some (.int .i64 id) ∧ w'.cell? ⟨w.heap.size, 2, none⟩ = some (.int .i64 d) ∧ w'.cell? ⟨w.heap.size, 3, none⟩ = some (.int .i64 tm))
    (first | exact ⟨c1, c2, c3⟩ | (refine ⟨?_, ?_, ?_⟩ <;> assumption))
    (first
      | (go_at_call 12; refine (LC.out _ (HD.out.below R0.drew).l).mono ?_; rintro e w9 ⟨rfl, L9, l9, n9⟩; have D9 := (HD.out.below R0.drew).led l9 n9; have s9 : Same (w.alloc (.cells #[.int .i64 3, .int .i64 id, .int .i64 d, .int .i64 tm, .int .i64 p1, .int .i64 p2, .int .i64 p3, .bool hard] 26)) w9 w.heap.size := (D9.2.same (by simp) HR.out.1 HR.out.2).trans sd; have c1 := (s9.cell 1).trans c1; have c2 := (s9.cell 2).trans c2; have c3 := (s9.cell 3).trans c3)
      | (go_at_call 48; refine (XC.out _ D9.1.x).mono ?_; rintro e w10 ⟨⟨z, rfl⟩, X10, s10, x10, n10, k10, m10⟩; have D10 := D9.1.ref x10 n10; have t10 : Same w9 w10 w.heap.size := n10.only.block w.heap.size (Nat.lt_of_lt_of_le lB D9.2.only.size) (fun e => e HR.out.2); have c1 := (t10.cell 1).trans c1; have c2 := (t10.cell 2).trans c2; have c3 := (t10.cell 3).trans c3)
      | fail)
  all_goals go_wp2_with fail
  all_goals go_ret
  all_goals exact ⟨⟨_, rfl⟩, L9, X10, s10, D10.1, ((DNext.of_below L X HB.out).trans ((DNext.of_below L X R0.drew).trans (D9.2.trans D10.2))), k10⟩
end
end Go.Proofs.Ytmcilmmnpolieaa
/- A call with both, the ledger and the document's answer. Each theorem's premises are its conditions. -/
namespace Go.Proofs.Ytmcilmmnpolieaa
open Go.ChangeShapes Go.WideShapes Go.ChangeAt Go.RowKit Go.Shelf Go.Deep

section
variable {w : World} {L : Lay} {X : XLay} {st : LS} {s : XS} {n : Nat}
set_option maxHeartbeats 4000000 in
theorem does_4 (h : Duo w L st X s) (ho : LOk st n) (hn : n ≤ 60) (hc : s.cnt ≤ 900) (id d tm p1 p2 p3 : Int) (hard : Bool) : Calls Try.prog 27 #[.pointer (some ⟨L.g, 0, none⟩), .pointer (some ⟨X.g, 0, none⟩), opval ⟨4, id, d, tm, (p1, p2, p3), hard⟩] w (Did w L X s (goS st tm).1) := by
  unfold opval
  simp only
  have b1 := bel_alloc (Below.refl w.heap.size w) (o := (.cells #[.int .i64 4, .int .i64 id, .int .i64 d, .int .i64 tm, .int .i64 p1, .int .i64 p2, .int .i64 p3, .bool hard] 26))
  have hD := h.below b1
  have hN := h.none
  have HD := Lib.hid hD
  have HR := Lib.hid hN
  have HB := Lib.hid b1
  have HO := Lib.hid ho
  have HN60 := Lib.hid hn
  have HC := Lib.hid hc
  have lB : w.heap.size < (w.alloc (.cells #[.int .i64 4, .int .i64 id, .int .i64 d, .int .i64 tm, .int .i64 p1, .int .i64 p2, .int .i64 p3, .bool hard] 26)).heap.size := by simp
  have R0 := Below.refl (w.alloc (.cells #[.int .i64 4, .int .i64 id, .int .i64 d, .int .i64 tm, .int .i64 p1, .int .i64 p2, .int .i64 p3, .bool hard] 26)).heap.size (w.alloc (.cells #[.int .i64 4, .int .i64 id, .int .i64 d, .int .i64 tm, .int .i64 p1, .int .i64 p2, .int .i64 p3, .bool hard] 26))
  have c3 : (w.alloc (.cells #[.int .i64 4, .int .i64 id, .int .i64 d, .int .i64 tm, .int .i64 p1, .int .i64 p2, .int .i64 p3, .bool hard] 26)).cell? ⟨w.heap.size, 3, none⟩ = some (.int .i64 tm) := by go_simp
  have LC := Lib.hid (fun (W : World) (HJ : LAt W L st) => go_any HJ ho (by omega) tm)
  have XC := Lib.hid (fun (W : World) (HX : XAt W X s) => xgo_any HX hc tm)
  obtain ⟨g, hg⟩ : ∃ g, g = L.g := ⟨_, rfl⟩
  obtain ⟨gx, hgx⟩ : ∃ gx, gx = X.g := ⟨_, rfl⟩
  rw [← hg] at LC ⊢
  rw [← hgx] at XC ⊢
  clear h hD hN b1 ho hc hg hgx hn
  go_enter Try.func27, Try.ntmps27
  go_wp2_with fail
  refine (LC.out _ HD.out.l).mono ?_
  rintro e w9 ⟨rfl, L9, l9, n9⟩
  have D9 := HD.out.led l9 n9
  have s9 : Same (w.alloc (.cells #[.int .i64 4, .int .i64 id, .int .i64 d, .int .i64 tm, .int .i64 p1, .int .i64 p2, .int .i64 p3, .bool hard] 26)) w9 w.heap.size := D9.2.same (by simp) HR.out.1 HR.out.2
  have c3 := (s9.cell 3).trans c3
  have lB9 : w.heap.size < w9.heap.size := Nat.lt_of_lt_of_le lB D9.2.only.size
  have HD9 := Lib.hid D9
  clear D9 l9 n9 s9
  go_wp2_with fail
  refine (XC.out _ HD9.out.1.x).mono ?_
  rintro e w10 ⟨⟨z, y, rfl⟩, X10, s10, x10, n10, k10, m10⟩
  have D10 := HD9.out.1.ref x10 n10
  have HD10 := Lib.hid D10
  clear D10 x10 n10
  generalize hA : (goS st tm).2.1 = A1
  generalize hA2 : (goS st tm).2.2 = A2
  cases q1 : (A1 == z) <;> cases q2 : (A2 == y)
  all_goals
    go_wp2_with fail
    go_ret
    exact ⟨⟨_, rfl⟩, L9, X10, s10, HD10.out.1, ((DNext.of_below L X HB.out).trans (HD9.out.2.trans HD10.out.2)), k10⟩
set_option maxHeartbeats 4000000 in
theorem does_6 (h : Duo w L st X s) (ho : LOk st n) (hn : n ≤ 60) (hc : s.cnt ≤ 900) (ask : Int) (h0 : ¬ ask = 0) (h1' : ¬ ask = 1) (h2' : ¬ ask = 2) (h3' : ¬ ask = 3) (h4' : ¬ ask = 4) (h5' : ¬ ask = 5) (id d tm p1 p2 p3 : Int) (hard : Bool) : Calls Try.prog 27 #[.pointer (some ⟨L.g, 0, none⟩), .pointer (some ⟨X.g, 0, none⟩), opval ⟨ask, id, d, tm, (p1, p2, p3), hard⟩] w (Did w L X s (domainS st hard d).1) := by
  unfold opval
  simp only
  have b1 := bel_alloc (Below.refl w.heap.size w) (o := (.cells #[.int .i64 ask, .int .i64 id, .int .i64 d, .int .i64 tm, .int .i64 p1, .int .i64 p2, .int .i64 p3, .bool hard] 26))
  have hD := h.below b1
  have hN := h.none
  have HD := Lib.hid hD
  have HR := Lib.hid hN
  have HB := Lib.hid b1
  have HO := Lib.hid ho
  have HN60 := Lib.hid hn
  have HC := Lib.hid hc
  have lB : w.heap.size < (w.alloc (.cells #[.int .i64 ask, .int .i64 id, .int .i64 d, .int .i64 tm, .int .i64 p1, .int .i64 p2, .int .i64 p3, .bool hard] 26)).heap.size := by simp
  have R0 := Below.refl (w.alloc (.cells #[.int .i64 ask, .int .i64 id, .int .i64 d, .int .i64 tm, .int .i64 p1, .int .i64 p2, .int .i64 p3, .bool hard] 26)).heap.size (w.alloc (.cells #[.int .i64 ask, .int .i64 id, .int .i64 d, .int .i64 tm, .int .i64 p1, .int .i64 p2, .int .i64 p3, .bool hard] 26))
  have c7 : (w.alloc (.cells #[.int .i64 ask, .int .i64 id, .int .i64 d, .int .i64 tm, .int .i64 p1, .int .i64 p2, .int .i64 p3, .bool hard] 26)).cell? ⟨w.heap.size, 7, none⟩ = some (.bool hard) := by go_simp
  have c2 : (w.alloc (.cells #[.int .i64 ask, .int .i64 id, .int .i64 d, .int .i64 tm, .int .i64 p1, .int .i64 p2, .int .i64 p3, .bool hard] 26)).cell? ⟨w.heap.size, 2, none⟩ = some (.int .i64 d) := by go_simp
  have LC := Lib.hid (fun (W : World) (HJ : LAt W L st) => domain_any HJ ho hard d)
  have XC := Lib.hid (fun (W : World) (HX : XAt W X s) => xdomain_any HX hard d)
  obtain ⟨g, hg⟩ : ∃ g, g = L.g := ⟨_, rfl⟩
  obtain ⟨gx, hgx⟩ : ∃ gx, gx = X.g := ⟨_, rfl⟩
  rw [← hg] at LC ⊢
  rw [← hgx] at XC ⊢
  have e0 : (ask == 0) = false := by rw [beq_eq_false_iff_ne]; assumption
  have e1 : (ask == 1) = false := by rw [beq_eq_false_iff_ne]; assumption
  have e2 : (ask == 2) = false := by rw [beq_eq_false_iff_ne]; assumption
  have e3 : (ask == 3) = false := by rw [beq_eq_false_iff_ne]; assumption
  have e4 : (ask == 4) = false := by rw [beq_eq_false_iff_ne]; assumption
  have e5 : (ask == 5) = false := by rw [beq_eq_false_iff_ne]; assumption
  clear h0 h1' h2' h3' h4' h5'
  clear h hD hN b1 ho hc hg hgx hn
  go_enter Try.func27, Try.ntmps27
  go_wp2_with fail
  refine (LC.out _ HD.out.l).mono ?_
  rintro e w9 ⟨rfl, L9, l9, n9⟩
  have D9 := HD.out.led l9 n9
  have s9 : Same (w.alloc (.cells #[.int .i64 ask, .int .i64 id, .int .i64 d, .int .i64 tm, .int .i64 p1, .int .i64 p2, .int .i64 p3, .bool hard] 26)) w9 w.heap.size := D9.2.same (by simp) HR.out.1 HR.out.2
  have c7 := (s9.cell 7).trans c7
  have c2 := (s9.cell 2).trans c2
  have lB9 : w.heap.size < w9.heap.size := Nat.lt_of_lt_of_le lB D9.2.only.size
  have HD9 := Lib.hid D9
  clear D9 l9 n9 s9
  go_wp2_with fail
  refine (XC.out _ HD9.out.1.x).mono ?_
  rintro e w10 ⟨⟨z, y, rfl⟩, X10, s10, x10, n10, k10, m10⟩
  have D10 := HD9.out.1.ref x10 n10
  have HD10 := Lib.hid D10
  clear D10 x10 n10
  generalize hA : (domainS st hard d).2.1 = A1
  generalize hA2 : (domainS st hard d).2.2 = A2
  cases q1 : (A1 == z) <;> cases q2 : (A2 == y)
  all_goals
    go_wp2_with fail
    go_ret
    exact ⟨⟨_, rfl⟩, L9, X10, s10, HD10.out.1, ((DNext.of_below L X HB.out).trans (HD9.out.2.trans HD10.out.2)), k10⟩
end
end Go.Proofs.Ytmcilmmnpolieaa
/- A call with both, the ledger and the document's answer. Each theorem's premises are its conditions. -/
namespace Go.Proofs.Ytmcilmmnpolieaa
open Go.ChangeShapes Go.WideShapes Go.ChangeAt Go.RowKit Go.Shelf Go.Deep

section
variable {w : World} {L : Lay} {X : XLay} {st : LS} {s : XS} {n : Nat}
set_option maxHeartbeats 4000000 in
theorem does_5 (h : Duo w L st X s) (ho : LOk st n) (hn : n ≤ 60) (hc : s.cnt ≤ 900) (id d tm p1 p2 p3 : Int) (hard : Bool) : Calls Try.prog 27 #[.pointer (some ⟨L.g, 0, none⟩), .pointer (some ⟨X.g, 0, none⟩), opval ⟨5, id, d, tm, (p1, p2, p3), hard⟩] w (Did w L X s (workerS st id d).1) := by
  unfold opval
  simp only
  have b1 := bel_alloc (Below.refl w.heap.size w) (o := (.cells #[.int .i64 5, .int .i64 id, .int .i64 d, .int .i64 tm, .int .i64 p1, .int .i64 p2, .int .i64 p3, .bool hard] 26))
  have hD := h.below b1
  have hN := h.none
  have HD := Lib.hid hD
  have HR := Lib.hid hN
  have HB := Lib.hid b1
  have HO := Lib.hid ho
  have HN60 := Lib.hid hn
  have HC := Lib.hid hc
  have lB : w.heap.size < (w.alloc (.cells #[.int .i64 5, .int .i64 id, .int .i64 d, .int .i64 tm, .int .i64 p1, .int .i64 p2, .int .i64 p3, .bool hard] 26)).heap.size := by simp
  have R0 := Below.refl (w.alloc (.cells #[.int .i64 5, .int .i64 id, .int .i64 d, .int .i64 tm, .int .i64 p1, .int .i64 p2, .int .i64 p3, .bool hard] 26)).heap.size (w.alloc (.cells #[.int .i64 5, .int .i64 id, .int .i64 d, .int .i64 tm, .int .i64 p1, .int .i64 p2, .int .i64 p3, .bool hard] 26))
  have c1 : (w.alloc (.cells #[.int .i64 5, .int .i64 id, .int .i64 d, .int .i64 tm, .int .i64 p1, .int .i64 p2, .int .i64 p3, .bool hard] 26)).cell? ⟨w.heap.size, 1, none⟩ = some (.int .i64 id) := by go_simp
  have c2 : (w.alloc (.cells #[.int .i64 5, .int .i64 id, .int .i64 d, .int .i64 tm, .int .i64 p1, .int .i64 p2, .int .i64 p3, .bool hard] 26)).cell? ⟨w.heap.size, 2, none⟩ = some (.int .i64 d) := by go_simp
  have LC := Lib.hid (fun (W : World) (HJ : LAt W L st) => worker_any HJ ho (by omega) id d)
  have XC := Lib.hid (fun (W : World) (HX : XAt W X s) => xworker_any HX hc id d)
  obtain ⟨g, hg⟩ : ∃ g, g = L.g := ⟨_, rfl⟩
  obtain ⟨gx, hgx⟩ : ∃ gx, gx = X.g := ⟨_, rfl⟩
  rw [← hg] at LC ⊢
  rw [← hgx] at XC ⊢
  clear h hD hN b1 ho hc hg hgx hn
  go_enter Try.func27, Try.ntmps27
  go_wp2_with fail
  have sd : Same (w.alloc (.cells #[.int .i64 5, .int .i64 id, .int .i64 d, .int .i64 tm, .int .i64 p1, .int .i64 p2, .int .i64 p3, .bool hard] 26)) (w.alloc (.cells #[.int .i64 5, .int .i64 id, .int .i64 d, .int .i64 tm, .int .i64 p1, .int .i64 p2, .int .i64 p3, .bool hard] 26)).drew w.heap.size := rfl
  go_region_held3 (fun w' => w'.cell? ⟨w.heap.size, 1, none⟩ = some (.int .i64 id) ∧ w'.cell? ⟨w.heap.size, 2, none⟩ = some (.int .i64 d))
    (first | exact ⟨c1, c2⟩ | (refine ⟨?_, ?_⟩ <;> assumption))
    (first
      | (go_at_call 14; refine (LC.out _ (HD.out.below R0.drew).l).mono ?_; rintro e w9 ⟨rfl, L9, l9, n9⟩; have D9 := (HD.out.below R0.drew).led l9 n9; have s9 : Same (w.alloc (.cells #[.int .i64 5, .int .i64 id, .int .i64 d, .int .i64 tm, .int .i64 p1, .int .i64 p2, .int .i64 p3, .bool hard] 26)) w9 w.heap.size := (D9.2.same (by simp) HR.out.1 HR.out.2).trans sd; have c1 := (s9.cell 1).trans c1; have c2 := (s9.cell 2).trans c2)
      | (go_at_call 50; refine (XC.out _ D9.1.x).mono ?_; rintro e w10 ⟨⟨z, rfl⟩, X10, s10, x10, n10, k10, m10⟩; have D10 := D9.1.ref x10 n10; have t10 : Same w9 w10 w.heap.size := n10.only.block w.heap.size (Nat.lt_of_lt_of_le lB D9.2.only.size) (fun e => e HR.out.2); have c1 := (t10.cell 1).trans c1; have c2 := (t10.cell 2).trans c2)
      | fail)
  all_goals go_wp2_with fail
  all_goals go_ret
  all_goals exact ⟨⟨_, rfl⟩, L9, X10, s10, D10.1, ((DNext.of_below L X HB.out).trans ((DNext.of_below L X R0.drew).trans (D9.2.trans D10.2))), k10⟩
theorem does_any (h : Duo w L st X s) (ho : LOk st n) (hn : n ≤ 60) (hc : s.cnt ≤ 900) (o : LOp) : Calls Try.prog 27 #[.pointer (some ⟨L.g, 0, none⟩), .pointer (some ⟨X.g, 0, none⟩), opval o] w (Did w L X s (stepS st o).1) := by
  obtain ⟨ask, id, d, tm, ⟨p1, p2, p3⟩, hard⟩ := o
  unfold stepS
  simp only
  by_cases h0 : ask = 0
  · subst h0; rw [if_pos rfl]; exact does_0 h ho hn hc id d tm p1 p2 p3 hard
  rw [if_neg h0]
  by_cases h1 : ask = 1
  · subst h1; rw [if_pos rfl]; exact does_1 h ho hn hc id d tm p1 p2 p3 hard
  rw [if_neg h1]
  by_cases h2 : ask = 2
  · subst h2; rw [if_pos rfl]; exact does_2 h ho hn hc id d tm p1 p2 p3 hard
  rw [if_neg h2]
  by_cases h3 : ask = 3
  · subst h3; rw [if_pos rfl]; exact does_3 h ho hn hc id d tm p1 p2 p3 hard
  rw [if_neg h3]
  by_cases h4 : ask = 4
  · subst h4; rw [if_pos rfl]; exact does_4 h ho hn hc id d tm p1 p2 p3 hard
  rw [if_neg h4]
  by_cases h5 : ask = 5
  · subst h5; rw [if_pos rfl]; exact does_5 h ho hn hc id d tm p1 p2 p3 hard
  rw [if_neg h5]
  exact does_6 h ho hn hc ask h0 h1 h2 h3 h4 h5 id d tm p1 p2 p3 hard
end
end Go.Proofs.Ytmcilmmnpolieaa
/- A ledger of three workers behind calls. Each theorem's premises are its conditions. -/
namespace Go.Proofs.Ytmcilmmnpolieaa
open Go.ChangeShapes Go.WideShapes Go.ChangeAt Go.RowKit Go.Shelf Go.Deep

theorem oprow_shape {w : World} {v : Value} {ops : List LOp} (h : OpRow w v ops) : ∃ a cap, v = .slice a ops.length cap ∧ ∀ j, j < ops.length → ∃ b off, a = some ⟨b, off, none⟩ ∧ b < w.heap.size ∧ OpAt w b (off + j * 8) (ops.getD j op0) := by
  rcases h with ⟨a, cap, rfl, rfl⟩ | ⟨b, off, cap, rfl, hlt, h0, hc⟩
  · exact ⟨a, cap, rfl, fun j hj => absurd hj (by simp)⟩
  · exact ⟨_, cap, rfl, fun j hj => ⟨b, off, rfl, hlt, hc j hj⟩⟩
theorem run_take {ops : List LOp} {k : Nat} (hk : k < ops.length) (st : LS) : runS st (ops.take (k + 1)) = (stepS (runS st (ops.take k)) (ops.getD k op0)).1 := by
  rw [List.take_add_one, List.getElem?_eq_getElem hk, ← run_snoc]
  simp [List.getD, hk]
theorem DNext.bel {B : Nat} {w w' : World} {L L' : Lay} {X X' : XLay} (h : DNext w L X w' L' X') (hl : ∀ k, L.role k ≠ none → B ≤ k) (hx : ∀ k, X.role k ≠ none → B ≤ k) (hB : B ≤ w.heap.size) : Below B w w' :=
  ⟨h.only.os, h.only.tape, h.only.output, h.only.size, fun k hk => h.only.block k (by omega) (fun e => by
    rcases e with e | e
    · have := hl k e; omega
    · have := hx k e; omega)⟩
/-- behind calls. -/
def Begun (w : World) (ops : List LOp) (e : Ending) (w' : World) : Prop := Below w.heap.size w w' ∧
  if ops.length ≤ 60 then ∃ L, e = .returned (.pointer (some ⟨L.g, 0, none⟩)) ∧ LAt w' L (runS (newLS 3) ops) ∧ ∀ k, L.role k ≠ none → w.heap.size ≤ k
  else e = .returned (.pointer none)
set_option maxHeartbeats 4000000 in
theorem begun_far (a : Option Addr) (len cap : Nat) (w : World) (hl : 60 < len) : Calls Try.prog 6 #[.slice a len cap] w fun e w' => e = .returned (.pointer none) ∧ Below w.heap.size w w' := by
  have NW := Lib.hid (new3 w)
  have d1 : decide ((60 : Int) < (len : Int)) = true := decide_eq_true (by omega)
  have d2 : decide (60 < len) = true := decide_eq_true hl
  go_enter Try.func6, Try.ntmps6
  go_wp2_with fail
  refine NW.out.mono ?_
  rintro e w1 ⟨L, rfl, l1, b1, r1⟩
  go_wp2_with fail
  go_ret
  exact ⟨rfl, b1⟩
set_option maxHeartbeats 4000000 in
theorem begun_ok (a : Option Addr) (cap : Nat) (ops : List LOp) (w : World) (hl : ops.length ≤ 60) (hrow : ∀ j, j < ops.length → ∃ b off, a = some ⟨b, off, none⟩ ∧ b < w.heap.size ∧ OpAt w b (off + j * 8) (ops.getD j op0)) :
    Calls Try.prog 6 #[.slice a ops.length cap] w fun e w' => (∃ L, e = .returned (.pointer (some ⟨L.g, 0, none⟩)) ∧ LAt w' L (runS (newLS 3) ops) ∧ ∀ k, L.role k ≠ none → w.heap.size ≤ k) ∧ Below w.heap.size w w' := by
  have NW := Lib.hid (new3 w)
  have XN := Lib.hid (fun W => xnew3 W)
  obtain ⟨m, hm⟩ : ∃ m, m = ops.length := ⟨_, rfl⟩
  have HR : Hid (∀ j, j < m → ∃ b off, a = some ⟨b, off, none⟩ ∧ b < w.heap.size ∧ OpAt w b (off + j * 8) (ops.getD j op0)) := fun j hj => hrow j (by omega)
  rw [← hm] at hl ⊢
  have HM := Lib.hid hm
  clear hm hrow
  have d1 : decide ((60 : Int) < (m : Int)) = false := decide_eq_false (by omega)
  have d2 : decide (60 < m) = false := decide_eq_false (by omega)
  go_enter Try.func6, Try.ntmps6
  go_wp2_with fail
  refine NW.out.mono ?_
  rintro e w1 ⟨L, rfl, l1, b1, r1⟩
  have HL1 := Lib.hid l1
  have HB1 := Lib.hid b1
  have HR1 := Lib.hid r1
  clear l1 b1 r1
  go_wp2_with fail
  refine (XN.out w1).mono ?_
  rintro e w2 ⟨X, s, rfl, x2, hc2, b2, rx2⟩
  have HU : Hid (Duo w2 L (newLS 3) X s) := ⟨HL1.out.below b2, x2, fun k hk hx => by
    have h1 := HL1.out.lt k hk
    have h2 := rx2 k hx
    omega⟩
  have hsz : w.heap.size ≤ w1.heap.size := HB1.out.size
  have hsz2 : w1.heap.size ≤ w2.heap.size := b2.size
  have HB2 := Lib.hid (bel_end HB1.out b2)
  have HRX : Hid (∀ k, X.role k ≠ none → w.heap.size ≤ k) := fun k hk => Nat.le_trans hsz (rx2 k hk)
  have HC2 := Lib.hid hc2
  clear x2 hc2 b2 rx2 d1 d2
  go_wp2_with fail
  go_loopg [6] m (fun kx s6 wr => ∃ (k : Nat) (L' : Lay) (X' : XLay) (s' : XS), s6 = .int .i64 k ∧ k ≤ m ∧ m - k ≤ kx ∧ s'.cnt ≤ k ∧ Hid (Duo wr L' (runS (newLS 3) (ops.take k)) X' s' ∧ DNext w2 L X wr L' X'))
  case atStart => exact ⟨0, L, X, s, rfl, by omega, by omega, by rw [HC2.out]; exact Nat.le_refl _, HU.out, DNext.of_below L X (Below.refl _ _)⟩
  case round =>
    obtain ⟨k, L', X', s', rfl, hk, hkx, hcn, HI⟩ := hrel
    have hBw : Below w.heap.size w wr := HB2.out.trans (HI.out.2.bel HR1.out HRX.out HB2.out.size)
    by_cases hlt : k < m
    · have hltz : (k : Int) < (m : Int) := by omega
      obtain ⟨b, off, rfl, hb, hop⟩ := HR.out k hlt
      have hlo : k < ops.length := by rw [← HM.out]; exact hlt
      have htk : (ops.take k).length = k := by rw [List.length_take]; omega
      have hok := run_ok (ops.take k) (new_ok (n := 3) (by omega))
      rw [htk] at hok
      have DO := does_any HI.out.1 hok (by omega) (by omega) (ops.getD k op0)
      have hrt := run_take hlo (newLS 3)
      rw [HI.out.2.g, HI.out.2.xg] at DO
      have HRT := Lib.hid hrt
      have lb : b < wr.heap.size := Nat.lt_of_lt_of_le hb hBw.size
      have c0 := (hBw.cell (p := ⟨b, off + k * 8 + 0, none⟩) hb).trans (hop 0 (by omega))
      have c1 := (hBw.cell (p := ⟨b, off + k * 8 + 1, none⟩) hb).trans (hop 1 (by omega))
      have c2 := (hBw.cell (p := ⟨b, off + k * 8 + 2, none⟩) hb).trans (hop 2 (by omega))
      have c3 := (hBw.cell (p := ⟨b, off + k * 8 + 3, none⟩) hb).trans (hop 3 (by omega))
      have c4 := (hBw.cell (p := ⟨b, off + k * 8 + 4, none⟩) hb).trans (hop 4 (by omega))
      have c5 := (hBw.cell (p := ⟨b, off + k * 8 + 5, none⟩) hb).trans (hop 5 (by omega))
      have c6 := (hBw.cell (p := ⟨b, off + k * 8 + 6, none⟩) hb).trans (hop 6 (by omega))
      have c7 := (hBw.cell (p := ⟨b, off + k * 8 + 7, none⟩) hb).trans (hop 7 (by omega))
      generalize hoo : ops.getD k op0 = o at *
      obtain ⟨ask, id, d, tm, ⟨p1, p2, p3⟩, hard⟩ := o
      simp only [opcells, Nat.add_zero, List.getElem?_cons_zero, List.getElem?_cons_succ] at c0 c1 c2 c3 c4 c5 c6 c7
      unfold opval at DO
      simp only at DO
      have HDO := Lib.hid DO
      clear DO hop hrt hok htk hlo hBw hoo
      go_wp2_with fail
      refine HDO.out.mono ?_
      rintro e w9 ⟨⟨bb, rfl⟩, L9, X9, s9, D9, n9, k9⟩
      have HN : Hid (Duo w9 L9 (runS (newLS 3) (ops.take (k + 1))) X9 s9 ∧ DNext w2 L X w9 L9 X9) := ⟨by rw [HRT.out]; exact D9, HI.out.2.trans n9⟩
      clear D9 n9 c0 c1 c2 c3 c4 c5 c6 c7
      go_wp2_with fail
      go_roundg (m - (k + 1))
      case measure => omega
      case rel => exact ⟨k + 1, L9, X9, s9, by first | rfl | (congr 1; done) | (congr 1; omega) | (simp; omega), by omega, Nat.le_refl _, by omega, HN.out⟩
    · obtain rfl : k = m := by omega
      have hge : ¬ (k : Int) < (k : Int) := by omega
      have htake : ops.take k = ops := by rw [HM.out]; exact List.take_length
      have hfin : LAt wr L' (runS (newLS 3) ops) := by have := HI.out.1.l; rwa [htake] at this
      have HF := Lib.hid hfin
      have HBW := Lib.hid hBw
      have HRL : Hid (∀ b, L'.role b ≠ none → w.heap.size ≤ b) := fun b hb => by
        rcases HI.out.2.role b (.inl hb) with (h1 | h1) | h1
        · exact HR1.out b h1
        · exact HRX.out b h1
        · exact Nat.le_trans HB2.out.size h1
      have HGG := Lib.hid HI.out.2.g
      clear hfin hBw htake
      go_wp2_with fail
      go_ret
      exact ⟨⟨L', by rw [HGG.out]; rfl, HF.out, HRL.out⟩, HBW.out⟩
theorem begun_any (v : Value) (ops : List LOp) (w : World) (h : OpRow w v ops) : Calls Try.prog 6 #[v] w (Begun w ops) := by
  obtain ⟨a, cap, rfl, hrow⟩ := oprow_shape h
  unfold Begun
  by_cases hl : ops.length ≤ 60
  · exact (begun_ok a cap ops w hl hrow).mono fun e w' h => ⟨h.2, by rw [if_pos hl]; exact h.1⟩
  · exact (begun_far a ops.length cap w (by omega)).mono fun e w' h => ⟨h.2, by rw [if_neg hl]; exact h.1⟩
theorem begins_any (w : World) : Calls Try.prog 7 #[] w (Gives (.bool true) w) := by
  have BG := Lib.hid (fun W => begun_any (.slice none 0 0) [] W (.inl ⟨_, _, rfl, rfl⟩))
  go_enter Try.func7, Try.ntmps7
  go_wp2_with fail
  refine (BG.out _).mono ?_
  rintro e w1 ⟨b1, h1⟩
  rw [if_pos (by simp)] at h1
  obtain ⟨L, rfl, _, _⟩ := h1
  go_wp2_with fail
  go_ret
  exact ⟨rfl, b1⟩
end Go.Proofs.Ytmcilmmnpolieaa
/- What ledger.Owed and ledger.Workers tell. Each theorem's premises are its conditions. -/
namespace Go.Proofs.Ytmcilmmnpolieaa
open Go.ChangeShapes Go.WideShapes Go.ChangeAt Go.RowKit Go.Shelf Go.Deep

/-- v is a row of its own, laid from B on, of what is owed. -/
def OwnsOB (w : World) (B : Nat) (v : Value) (l : List Ow) : Prop := w.ownsRow B 56 5 v l.length (ocells l)
theorem own_emptyO {w : World} {B g : Nat} (hB : B ≤ g) (h : w.heap[g]? = some (.cells #[] 56 (0, 0))) : w.ownsRow B 56 5 (.slice (some ⟨g, 0, none⟩) 0 0) 0 [] :=
  ⟨rfl, .inr ⟨g, 0, #[], rfl, hB, h, Nat.le_refl _, Nat.zero_le _, rfl, rfl⟩⟩
theorem ocells_at {l : List Ow} {j : Nat} {u : Value} (h : (ocells l)[j]? = some u) : ∃ i c, i < l.length ∧ c < 5 ∧ j = i * 5 + c ∧ u = oc (l.getD i default) c := by
  have hj : j < (ocells l).length := (List.getElem?_eq_some_iff.1 h).1
  rw [ocells_length] at hj
  have h2 := ocells_get l (j / 5) (j % 5) (by omega) (Nat.mod_lt _ (by omega))
  have e : j / 5 * 5 + j % 5 = j := by omega
  rw [e, h] at h2
  exact ⟨j / 5, j % 5, by omega, Nat.mod_lt _ (by omega), e.symm, Option.some.inj h2⟩
theorem owat_oc {w : World} {g o : Nat} {x : Ow} (h : OwAt w g o x) {c : Nat} (hc : c < 5) : w.cell? ⟨g, o + c, none⟩ = some (oc x c) := by
  match c, hc with
  | 0, _ => exact h.1
  | 1, _ => exact h.2.1
  | 2, _ => exact h.2.2.1
  | 3, _ => exact h.2.2.2.1
  | 4, _ => exact h.2.2.2.2
set_option maxRecDepth 100000 in
set_option maxHeartbeats 1000000 in
theorem oclone_some (ad : Addr) (len cap : Nat) (l : List Ow) (w : World) (hlen : len = l.length) (hl : l.length ≤ 1000) (hc : ∀ j u, (ocells l)[j]? = some u → w.cell? (ad.add j) = some u) :
    Calls Try.prog 39 #[.slice (some ad) len cap] w fun e w' => ∃ v', e = .returned v' ∧ OwnsOB w' w.heap.size v' l ∧ Below w.heap.size w w' := by
  subst hlen
  obtain ⟨i0, hi, hz0, hz1, hz2⟩ := info_parts Try.infoOwe
  have HC := Lib.hid hc
  clear hc
  have hq : ∀ w : World, (binOp .eql 44 (.slice (some ad) l.length cap) (.slice none 0 0)).run Try.prog w = .ok (.bool false) w := fun _ => rfl
  go_enter Try.func39, Try.ntmps39
  go_wp2_with (at_builtin; (refine wpList_append_own _ rfl _ _ 44 rfl w.heap.size 56 i0 (.agg #[.int .i64 0, .int .i64 0, .int .i64 0, .int .i64 0, .int .i64 0]) 5 40 Try.underlying44 hi hz0 hz1 hz2 rfl (by decide) _ 0 [] rfl (own_emptyO (Nat.le_refl _) (World.alloc_heap_new w _)) ad l.length cap (ocells l) rfl (ocells_length l) (fun j u hj => cell_alloc (HC.out j u hj)) (ocells_one l) (by unfold maxLen; omega) (by omega) (by simp) ?_); intro v' w3 hown hgrow _)
  go_ret
  rw [Nat.zero_add, List.nil_append] at hown
  refine ⟨_, rfl, hown, (bel_alloc (Below.refl w.heap.size w)).grown hgrow (by simp) (fun k e => by cases e; exact Nat.le_refl _)⟩
set_option maxRecDepth 100000 in
theorem oclone_nil (w : World) : Calls Try.prog 39 #[.slice none 0 0] w fun e w' => e = .returned (.slice none 0 0) ∧ w' = w := by
  have hq : ∀ w : World, (binOp .eql 44 (.slice none 0 0) (.slice none 0 0)).run Try.prog w = .ok (.bool true) w := fun _ => rfl
  go_enter Try.func39, Try.ntmps39
  go_wp2_with fail
  go_ret
  exact ⟨rfl, rfl⟩
theorem oclone_any {w : World} {v : Value} {l : List Ow} (h : OwnsO w v l) (hl : l.length ≤ 1000) :
    Calls Try.prog 39 #[v] w fun e w' => ∃ v', e = .returned v' ∧ OwnsOB w' w.heap.size v' l ∧ Below w.heap.size w w' := by
  rcases owed_shape h with ⟨rfl, rfl⟩ | ⟨g, cap, rfl, hg, hcap, _, hc⟩
  · exact (oclone_nil w).mono fun e w' ⟨h1, h2⟩ => ⟨_, h1, ⟨rfl, .inl ⟨rfl, rfl⟩⟩, by rw [h2]; exact Below.refl _ _⟩
  · refine oclone_some ⟨g, 0, none⟩ l.length cap l w rfl hl fun j u hj => ?_
    obtain ⟨i, c, hi, hc', rfl, rfl⟩ := ocells_at hj
    have e1 : (Addr.mk g 0 none).add (i * 5 + c) = ⟨g, i * 5 + c, none⟩ := by unfold Addr.add; split <;> simp_all
    rw [e1]
    exact owat_oc (hc i hi) hc'
section
variable {w : World} {L : Lay} {st : LS} {n : Nat}
theorem ol_eq (h : LAt w L st) {d : Nat} (hd : d < st.nd) : (L.ol d).length = (st.dom d).owed.length := (h.dom d hd).perm.length_eq
theorem owed_in (h : LAt w L st) (ho : LOk st n) (hn : n ≤ 900) (d : Nat) (hd : d < st.nd) : Calls Try.prog 18 #[.pointer (some ⟨L.g, 0, none⟩), .int .i64 d] w fun e w' => ∃ v', e = .returned v' ∧ OwnsOB w' w.heap.size v' (L.ol d) ∧ Below w.heap.size w w' := by
  have FD := Lib.hid (dfind_in h d hd)
  have hD := h.dom d hd
  have yo := hD.ov
  have lD := role_lt h hD.role
  have CL := Lib.hid (oclone_any hD.own (by rw [ol_eq h hd]; have := ho.owed d hd; omega))
  unfold ptr at FD
  generalize L.db d = db at *
  generalize L.ov d = ov at *
  generalize L.ol d = ol at *
  generalize L.g = g at *
  clear h ho hD
  go_enter Try.func18, Try.ntmps18
  go_wp2_with fail
  refine FD.out.mono ?_
  rintro e w1 ⟨rfl, hw1⟩
  obtain rfl := hw1.symm
  go_wp2_with fail
  refine CL.out.mono ?_
  rintro e w2 ⟨v', rfl, h1, h2⟩
  go_wp2_with fail
  go_ret
  exact ⟨v', rfl, h1, h2⟩
theorem owed_out (h : LAt w L st) (h0 : 0 < st.nd) (d : Int) (hd : ¬ (0 ≤ d ∧ d < st.nd)) : Calls Try.prog 18 #[.pointer (some ⟨L.g, 0, none⟩), .int .i64 d] w fun e w' => e = .returned (.slice none 0 0) ∧ w' = w := by
  have FD := Lib.hid (dfind_out h h0 d hd)
  generalize L.g = g at *
  clear h hd
  go_enter Try.func18, Try.ntmps18
  go_wp2_with fail
  refine FD.out.mono ?_
  rintro e w1 ⟨rfl, hw1⟩
  obtain rfl := hw1.symm
  go_wp2_with fail
  go_ret
  exact ⟨rfl, rfl⟩
/-- a domain's workers among the first n. -/
def wof (st : LS) (d : Int) (n : Nat) : List Int := ((List.range n).filter fun i => decide (((st.wk i : Nat) : Int) = d)).map fun i => ((i : Nat) : Int)
theorem wof_succ (st : LS) (d : Int) (n : Nat) : wof st d (n + 1) = wof st d n ++ (if ((st.wk n : Nat) : Int) = d then [((n : Nat) : Int)] else []) := by
  unfold wof
  rw [List.range_succ, List.filter_append, List.map_append]
  congr 1
  by_cases h : ((st.wk n : Nat) : Int) = d <;> simp [h]
theorem wof_le (st : LS) (d : Int) (n : Nat) : (wof st d n).length ≤ n := by
  unfold wof
  rw [List.length_map]
  exact Nat.le_trans (List.length_filter_le _ _) (by simp)
set_option maxHeartbeats 2000000 in
theorem workers_any (h : LAt w L st) (hnw : st.nw ≤ 16) (d : Int) : Calls Try.prog 19 #[.pointer (some ⟨L.g, 0, none⟩), .int .i64 d] w fun e w' => ∃ a c, e = .returned (.slice a (wof st d st.nw).length c) ∧ w'.ownsRow w.heap.size 3 1 (.slice a (wof st d st.nw).length c) (wof st d st.nw).length (ints (wof st d st.nw)) ∧ Below w.heap.size w w' := by
  obtain ⟨i0, hinf, hz0, hz1, hz2⟩ := info_parts infoInt
  have HL := Lib.hid h
  have x := h.led.wv
  have lg := h.lt _ (by rw [h.led.role]; exact fun e => by cases e)
  generalize hnwm : st.nw = nw at *
  have HNW := Lib.hid hnwm
  generalize hwb : L.wb = wb at *
  have HWB := Lib.hid hwb
  generalize L.g = g at *
  clear h hnwm hwb
  go_enter Try.func19, Try.ntmps19
  go_wp2_with fail
  go_loopg [5, 15] nw (fun kx s5 s15 wr => ∃ (k : Nat) (a : Option Addr) (c m : Nat), s15 = .int .i64 k ∧ s5 = .slice a m c ∧ k ≤ nw ∧ nw - k ≤ kx ∧ m ≤ k ∧ Hid (m = (wof st d k).length ∧ wr.ownsRow w.heap.size 3 1 (.slice a m c) m (ints (wof st d k)) ∧ Below w.heap.size w wr))
  case atStart => exact ⟨0, none, 0, 0, rfl, rfl, by omega, by omega, by omega, by simp [wof], ⟨by simp [wof, ints], .inl ⟨rfl, rfl⟩⟩, Below.refl _ _⟩
  case round =>
    clear x lg
    obtain ⟨k, a, c, m, rfl, rfl, hk, hkx, hm, HI⟩ := hrel
    by_cases hlt : k < nw
    · have hltz : (k : Int) < (nw : Int) := by omega
      have hL1 := HL.out.below HI.out.2.2
      have y := hL1.wks.cell k (by rw [HNW.out]; exact hlt)
      have lw := hL1.lt _ (by rw [hL1.wks.role]; exact fun e => by cases e)
      rw [HWB.out] at y lw
      have hsz := HI.out.2.2.size
      clear hL1
      by_cases hd : ((st.wk k : Nat) : Int) = d
      · have d1 : (((st.wk k : Nat) : Int) == d) = true := by rw [beq_iff_eq]; exact hd
        have hws : wof st d (k + 1) = wof st d k ++ [((k : Nat) : Int)] := by rw [wof_succ, if_pos hd]
        have HWS := Lib.hid hws
        generalize ((st.wk k : Nat) : Int) = z at *
        clear hd hws
        go_wp2_with (at_builtin; (refine wpList_append_own _ rfl _ _ 46 rfl w.heap.size 3 i0 (.int .i64 0) 1 8 Try.underlying46 hinf hz0 hz1 hz2 rfl (by decide) _ m (ints (wof st d k)) rfl (HI.out.2.1.alloc _) ⟨wr.heap.size, 0, none⟩ 1 1 [.int .i64 k] rfl rfl (new_one (.int .i64 k) _ _) (one_cell1 (by rfl)) (by unfold maxLen; omega) (by omega) (by simp; omega) ?_); intro v' w3 hown hgrow _; obtain ⟨a3, n3, c3, rfl⟩ := SeqG.own_slice hown; have HW := Lib.hid hown; have HGR := Lib.hid hgrow; clear hown hgrow)
        have hB3 : Below w.heap.size w w3 := app_below (HI.out.2.2.alloc hsz _) (Nat.le_refl _) (by simp; omega) (B := w.heap.size) (HI.out.2.1) HGR.out
        have hn3 : n3 = m + 1 := by
          obtain ⟨_, ⟨e, e0⟩ | ⟨_, _, _, e, _⟩⟩ := HW.out <;> cases e <;> simp_all
        subst hn3
        have HF : Hid (m + 1 = (wof st d (k + 1)).length ∧ w3.ownsRow w.heap.size 3 1 (.slice a3 (m + 1) c3) (m + 1) (ints (wof st d (k + 1))) ∧ Below w.heap.size w w3) := by
          refine ⟨by rw [HWS.out, List.length_append, HI.out.1]; rfl, ?_, hB3⟩
          have e : ints (wof st d (k + 1)) = ints (wof st d k) ++ [.int .i64 k] := by rw [HWS.out]; simp [ints]
          rw [e]; exact HW.out
        go_roundg (nw - (k + 1))
        case measure => omega
        case rel => exact ⟨k + 1, a3, c3, m + 1, by first | rfl | (congr 1; done) | (congr 1; omega) | (simp; omega), rfl, by omega, Nat.le_refl _, by omega, HF.out⟩
      · have d1 : (((st.wk k : Nat) : Int) == d) = false := by rw [beq_eq_false_iff_ne]; exact hd
        have hws : wof st d (k + 1) = wof st d k := by rw [wof_succ, if_neg hd, List.append_nil]
        have HWS := Lib.hid hws
        generalize ((st.wk k : Nat) : Int) = z at *
        clear hd hws
        go_wp2_with fail
        go_roundg (nw - (k + 1))
        case measure => omega
        case rel => exact ⟨k + 1, a, c, m, by first | rfl | (congr 1; done) | (congr 1; omega) | (simp; omega), rfl, by omega, Nat.le_refl _, by omega, by rw [HWS.out]; exact HI.out⟩
    · obtain rfl : k = nw := by omega
      have hge : ¬ (k : Int) < (k : Int) := by omega
      go_wp2_with fail
      go_ret
      obtain ⟨rfl, ho1, hb1⟩ := HI.out
      exact ⟨a, c, rfl, ho1, hb1⟩
end
end Go.Proofs.Ytmcilmmnpolieaa
/- The chapter's example: it goes as it is told. Each theorem's premises are its conditions. -/
namespace Go.Proofs.Ytmcilmmnpolieaa
open Go.ChangeShapes Go.WideShapes Go.ChangeAt Go.RowKit Go.Shelf Go.Deep

def aw0 : LS := newLS 1
def aw1 : LS := (joinS aw0 0 0 (6, 10, 10)).1
def aw2 : LS := (joinS aw1 1 0 (5, 10, 10)).1
def aw3 : LS := (leaveS aw2 0 10).1
def aw4 : LS := (joinS aw3 1 0 (5, 10, 10)).1
def aw5 : LS := (goS aw4 10).1
theorem aw0_j : (joinS aw0 0 0 (6, 10, 10)).2 = 0 := by kernel_rfl
theorem aw1_j : (joinS aw1 1 0 (5, 10, 10)).2 = 17 := by kernel_rfl
theorem aw2_l : (leaveS aw2 0 10).2 = 0 := by kernel_rfl
theorem aw3_j : (joinS aw3 1 0 (5, 10, 10)).2 = 17 := by kernel_rfl
theorem aw4_g : (goS aw4 10).2.1 = 1 ∧ (goS aw4 10).2.2 = 0 := ⟨by kernel_rfl, by kernel_rfl⟩
theorem aw5_j : (joinS aw5 1 0 (5, 10, 10)).2 = 0 := by kernel_rfl
theorem aw0_ok : LOk aw0 0 := new_ok (by omega)
theorem aw1_ok : LOk aw1 0 := join_ok aw0_ok _ _ _
theorem aw2_ok : LOk aw2 0 := join_ok aw1_ok _ _ _
theorem aw3_ok : LOk aw3 1 := leave_ok aw2_ok _ _
theorem aw4_ok : LOk aw4 1 := join_ok aw3_ok _ _ _
theorem aw5_ok : LOk aw5 1 := go_ok aw4_ok _
structure AwAt (w : World) (g B : Nat) (st : LS) (w' : World) (L : Lay) : Prop where
  at_ : LAt w' L st
  g : L.g = g
  bel : Below w.heap.size w w'
  box : ParamAt w' B 0 (5, 10, 10)
  off : L.role B = none
  low : ∀ k, L.role k ≠ none → w.heap.size ≤ k
  lt : B < w'.heap.size
section
variable {w W W' : World} {g B : Nat} {st st' : LS} {L L' : Lay} {n : Nat}
theorem AwAt.step (h : AwAt w g B st W L) (hn : Next W L W' L') (ha : LAt W' L' st') : AwAt w g B st' W' L' := by
  have hs : Same W W' B := hn.only.block B h.lt (fun e => e h.off)
  have hb : Below w.heap.size W W' := ⟨hn.only.os, hn.only.tape, hn.only.output, hn.only.size, fun k hk => hn.only.block k (Nat.lt_of_lt_of_le hk h.bel.size) (fun e => by have := h.low k e; omega)⟩
  refine ⟨ha, hn.g.trans h.g, h.bel.trans hb, h.box.same' hs, ?_, fun k hk => ?_, Nat.lt_of_lt_of_le h.lt hn.only.size⟩
  · cases hr : L'.role B with
    | none => rfl
    | some r =>
      rcases hn.role B (by rw [hr]; exact fun e => by cases e) with h1 | h1
      · exact absurd h.off h1
      · have := h.lt; omega
  · rcases hn.role k hk with h1 | h1
    · exact h.low k h1
    · exact Nat.le_trans h.bel.size h1
theorem aw_join (h : AwAt w g B st W L) (ho : LOk st n) (hn : n ≤ 60) (id d : Int) (p : P3) {r : Int} (hr : (joinS st id d p).2 = r) : Calls Try.prog 9 #[.pointer (some ⟨g, 0, none⟩), .int .i64 id, .int .i64 d, .agg #[.int .i64 p.1, .int .i64 p.2.1, .int .i64 p.2.2]] W fun e w' => e = .returned (.int .i64 r) ∧ ∃ L', AwAt w g B (joinS st id d p).1 w' L' := by
  have J := join_any h.at_ ho (by omega) id d p
  rw [h.g] at J
  refine J.mono ?_
  rintro e w' ⟨rfl, L', l', n'⟩
  exact ⟨by rw [hr], L', h.step n' l'⟩
theorem aw_leave (h : AwAt w g B st W L) (ho : LOk st n) (hn : n ≤ 60) (id tm : Int) {r : Int} (hr : (leaveS st id tm).2 = r) : Calls Try.prog 11 #[.pointer (some ⟨g, 0, none⟩), .int .i64 id, .int .i64 tm] W fun e w' => e = .returned (.int .i64 r) ∧ ∃ L', AwAt w g B (leaveS st id tm).1 w' L' := by
  have J := leave_any h.at_ ho hn id tm
  rw [h.g] at J
  refine J.mono ?_
  rintro e w' ⟨rfl, L', l', n'⟩
  exact ⟨by rw [hr], L', h.step n' l'⟩
theorem aw_go (h : AwAt w g B st W L) (ho : LOk st n) (hn : n ≤ 60) (tm : Int) {r r2 : Int} (hr : (goS st tm).2.1 = r ∧ (goS st tm).2.2 = r2) : Calls Try.prog 13 #[.pointer (some ⟨g, 0, none⟩), .int .i64 tm] W fun e w' => e = .returned (.tuple #[.int .i64 r, .int .i64 r2]) ∧ ∃ L', AwAt w g B (goS st tm).1 w' L' := by
  have J := go_any h.at_ ho (by omega) tm
  rw [h.g] at J
  refine J.mono ?_
  rintro e w' ⟨rfl, L', l', n'⟩
  exact ⟨by rw [hr.1, hr.2], L', h.step n' l'⟩
end
set_option maxHeartbeats 4000000 in
theorem awake_any (w : World) : Calls Try.prog 8 #[] w (Gives (.bool true) w) := by
  have NW := Lib.hid (new1 w)
  go_enter Try.func8, Try.ntmps8
  go_wp2_with fail
  refine NW.out.mono ?_
  rintro e w1 ⟨L, rfl, l1, b1, r1⟩
  have HL1 := Lib.hid l1
  have HB1 := Lib.hid b1
  have HR1 := Lib.hid r1
  clear l1 b1 r1
  have HA0 : Hid (AwAt w L.g w1.heap.size aw0 (w1.alloc (.cells #[.int .i64 5, .int .i64 10, .int .i64 10] 24)) L) := by
    have b2 := bel_alloc (Below.refl w1.heap.size w1) (o := .cells #[.int .i64 5, .int .i64 10, .int .i64 10] 24)
    refine ⟨HL1.out.below b2, rfl, bel_end HB1.out b2, ⟨?_, ?_, ?_⟩, ?_, HR1.out, by simp⟩
    · go_simp
    · go_simp
    · go_simp
    · cases hr : L.role w1.heap.size with
      | none => rfl
      | some r => have := HL1.out.lt w1.heap.size (by rw [hr]; exact fun e => by cases e); omega
  obtain ⟨g, hg⟩ : ∃ g, g = L.g := ⟨_, rfl⟩
  rw [← hg] at HA0 ⊢
  clear hg
  have J0 := Lib.hid (aw_join HA0.out aw0_ok (by omega) 0 0 (6, 10, 10) aw0_j)
  clear HL1 HB1 HR1
  go_wp2_with fail
  refine J0.out.mono ?_
  clear J0 HA0
  rintro e w2 ⟨rfl, L2, h2⟩
  have HA2 := Lib.hid h2
  have q0 := h2.box.1
  have q1 := h2.box.2.1
  have q2 := h2.box.2.2
  have lq := h2.lt
  have J2 := Lib.hid (aw_join HA2.out aw1_ok (by omega) 1 0 (5, 10, 10) aw1_j)
  clear h2
  generalize hB : w1.heap.size = B at *
  clear hB
  go_wp2_with fail
  refine J2.out.mono ?_
  clear J2 HA2 q0 q1 q2 lq
  rintro e w3 ⟨rfl, L3, h3⟩
  have HA3 := Lib.hid h3
  have q0 := h3.box.1
  have q1 := h3.box.2.1
  have q2 := h3.box.2.2
  have lq := h3.lt
  have J3 := Lib.hid (aw_leave HA3.out aw2_ok (by omega) 0 10 aw2_l)
  clear h3
  go_wp2_with fail
  refine J3.out.mono ?_
  clear J3 HA3 q0 q1 q2 lq
  rintro e w4 ⟨rfl, L4, h4⟩
  have HA4 := Lib.hid h4
  have q0 := h4.box.1
  have q1 := h4.box.2.1
  have q2 := h4.box.2.2
  have lq := h4.lt
  have J4 := Lib.hid (aw_join HA4.out aw3_ok (by omega) 1 0 (5, 10, 10) aw3_j)
  clear h4
  go_wp2_with fail
  refine J4.out.mono ?_
  clear J4 HA4 q0 q1 q2 lq
  rintro e w5 ⟨rfl, L5, h5⟩
  have HA5 := Lib.hid h5
  have q0 := h5.box.1
  have q1 := h5.box.2.1
  have q2 := h5.box.2.2
  have lq := h5.lt
  have J5 := Lib.hid (aw_go HA5.out aw4_ok (by omega) 10 aw4_g)
  clear h5
  go_wp2_with fail
  refine J5.out.mono ?_
  clear J5 HA5 q0 q1 q2 lq
  rintro e w6 ⟨rfl, L6, h6⟩
  have HA6 := Lib.hid h6
  have q0 := h6.box.1
  have q1 := h6.box.2.1
  have q2 := h6.box.2.2
  have lq := h6.lt
  have J6 := Lib.hid (aw_join HA6.out aw5_ok (by omega) 1 0 (5, 10, 10) aw5_j)
  clear h6
  go_wp2_with fail
  refine J6.out.mono ?_
  clear J6 HA6 q0 q1 q2 lq
  rintro e w7 ⟨rfl, L7, h7⟩
  have HB7 := Lib.hid h7.bel
  clear h7
  go_wp2_with fail
  go_ret
  exact ⟨rfl, HB7.out⟩
end Go.Proofs.Ytmcilmmnpolieaa
/- What a ledger tells, in one for each: where a server is, a domain's rule, how much it owes. Each theorem's premises are its conditions. -/
namespace Go.Proofs.Ytmcilmmnpolieaa
open Go.ChangeShapes Go.WideShapes Go.ChangeAt Go.RowKit Go.Shelf Go.Deep

def whOf (st : LS) (i : Nat) : Int × P3 × Int := match st.srv i with
  | some (d, p) => (((d : Nat) : Int), p, 0)
  | none => (0, (0, 0, 0), 14)
def ruOf (st : LS) (d : Int) : Bool × Int × Int × Int := if 0 ≤ d ∧ d < st.nd then ((st.dom d.toNat).hard, (st.dom d.toNat).cap, (st.dom d.toNat).wk, 0) else (false, 0, 0, 14)
def olOf (st : LS) (d : Int) : Nat := if 0 ≤ d ∧ d < st.nd then (st.dom d.toNat).owed.length else 0
section
variable {w : World} {L : Lay} {st : LS} {n : Nat}
theorem where_any (h : LAt w L st) (i : Nat) (hi : i < 64) : Calls Try.prog 16 #[.pointer (some ⟨L.g, 0, none⟩), .int .i64 i] w
    fun e w' => e = .returned (.tuple #[.int .i64 (whOf st i).1, .agg #[.int .i64 (whOf st i).2.1.1, .int .i64 (whOf st i).2.1.2.1, .int .i64 (whOf st i).2.1.2.2], .int .i64 (whOf st i).2.2]) ∧ Below w.heap.size w w' := by
  unfold whOf
  cases hs : st.srv i with
  | some s =>
    obtain ⟨d, p⟩ := s
    exact where_some h i hi hs
  | none => exact where_not i (by decide) L.g w fun w2 hb => member_any L.g i (sfind_none (h.below hb) i hi hs)
theorem where_out (L : Lay) (id : Int) (hid : ¬ (0 ≤ id ∧ id < 64)) : Calls Try.prog 16 #[.pointer (some ⟨L.g, 0, none⟩), .int .i64 id] w
    fun e w' => e = .returned (.tuple #[.int .i64 0, .agg #[.int .i64 0, .int .i64 0, .int .i64 0], .int .i64 10]) ∧ Below w.heap.size w w' :=
  where_not id (by decide) L.g w fun w2 _ => member_any L.g id (sfind_out (w := w2) id hid _)
theorem rule_any2 (h : LAt w L st) (h0 : 0 < st.nd) (d : Int) : Calls Try.prog 17 #[.pointer (some ⟨L.g, 0, none⟩), .int .i64 d] w
    fun e w' => e = .returned (.tuple #[.agg #[.bool (ruOf st d).1, .int .i64 (ruOf st d).2.1, .int .i64 (ruOf st d).2.2.1], .int .i64 (ruOf st d).2.2.2]) ∧ Below w.heap.size w w' := by
  unfold ruOf
  by_cases hd : 0 ≤ d ∧ d < st.nd
  · rw [if_pos hd]
    obtain ⟨k, rfl⟩ : ∃ k : Nat, d = k := ⟨d.toNat, by omega⟩
    exact rule_in h k (by omega)
  · rw [if_neg hd]
    exact rule_out h h0 d hd
theorem owed_any (h : LAt w L st) (ho : LOk st n) (hn : n ≤ 900) (d : Int) : Calls Try.prog 18 #[.pointer (some ⟨L.g, 0, none⟩), .int .i64 d] w
    fun e w' => (∃ a c, e = .returned (.slice a (olOf st d) c)) ∧ Below w.heap.size w w' := by
  unfold olOf
  by_cases hd : 0 ≤ d ∧ d < st.nd
  · rw [if_pos hd]
    obtain ⟨k, rfl⟩ : ∃ k : Nat, d = k := ⟨d.toNat, by omega⟩
    refine (owed_in h ho hn k (by omega)).mono ?_
    rintro e w' ⟨v', rfl, ⟨_, hO⟩, hb⟩
    refine ⟨?_, hb⟩
    rw [Int.toNat_natCast, ← ol_eq h (show k < st.nd by omega)]
    rcases hO with ⟨rfl, h0⟩ | ⟨g, cap, cur, rfl, _⟩
    · exact ⟨none, 0, by rw [h0]⟩
    · exact ⟨_, _, rfl⟩
  · rw [if_neg hd]
    exact (owed_out h ho.nd.1 d hd).mono fun e w' hh => ⟨⟨none, 0, hh.1⟩, by rw [hh.2]; exact Below.refl _ _⟩
/-- two ledgers in one state, apart. -/
structure Two (w W : World) (st : LS) (La Lb : Lay) : Prop where
  a : LAt W La st
  b : LAt W Lb st
  dis : ∀ k, La.role k ≠ none → Lb.role k ≠ none → False
  low : ∀ k, La.role k ≠ none → w.heap.size ≤ k
  bel : Below w.heap.size w W
/-- behind a call with the one: the rest of memory is as it was, and what is refused has turned nothing. -/
def Fin2 (w : World) (st : LS) (ga : Nat) (Lb : Lay) (w' : World) (z : Int) : Prop := Below w.heap.size w w' ∧ (z ≠ 0 → ∃ La', LAt w' La' st ∧ La'.g = ga ∧ LAt w' Lb st)
theorem fin_of {W w' : World} {La Lb : Lay} (T : Two w W st La Lb) {st' : LS} {e : Ending} {v : Value} (ht : Turns W La st' e v w') {z : Int} (hs : z ≠ 0 → st' = st) : Fin2 w st La.g Lb w' z := by
  obtain ⟨_, L', l', n'⟩ := ht
  refine ⟨T.bel.trans ⟨n'.only.os, n'.only.tape, n'.only.output, n'.only.size, fun k hk => n'.only.block k (Nat.lt_of_lt_of_le hk T.bel.size) (fun e => by have := T.low k e; omega)⟩, fun hz => ⟨L', ?_, n'.g, T.b.keep n'.only fun b hb hl => T.dis b hl hb⟩⟩
  rw [← hs hz]; exact l'
section
variable {W : World} {La Lb : Lay} (T : Two w W st La Lb) (ho : LOk st n) (hn : n ≤ 60)
include T ho hn
theorem kp_join (id d : Int) (p : P3) : Calls Try.prog 9 #[.pointer (some ⟨La.g, 0, none⟩), .int .i64 id, .int .i64 d, .agg #[.int .i64 p.1, .int .i64 p.2.1, .int .i64 p.2.2]] W fun e w' => ∃ z : Int, e = .returned (.int .i64 z) ∧ Fin2 w st La.g Lb w' z :=
  (join_any T.a ho (by omega) id d p).mono fun _ _ h => ⟨_, h.1, fin_of T h (fun hz => join_same hz)⟩
theorem kp_change (id : Int) (p : P3) : Calls Try.prog 10 #[.pointer (some ⟨La.g, 0, none⟩), .int .i64 id, .agg #[.int .i64 p.1, .int .i64 p.2.1, .int .i64 p.2.2]] W fun e w' => ∃ z : Int, e = .returned (.int .i64 z) ∧ Fin2 w st La.g Lb w' z :=
  (change_any T.a ho (by omega) id p).mono fun _ _ h => ⟨_, h.1, fin_of T h (fun hz => change_same hz)⟩
theorem kp_leave (id tm : Int) : Calls Try.prog 11 #[.pointer (some ⟨La.g, 0, none⟩), .int .i64 id, .int .i64 tm] W fun e w' => ∃ z : Int, e = .returned (.int .i64 z) ∧ Fin2 w st La.g Lb w' z :=
  (leave_any T.a ho hn id tm).mono fun _ _ h => ⟨_, h.1, fin_of T h (fun hz => leave_same hz)⟩
theorem kp_move (id d tm : Int) : Calls Try.prog 12 #[.pointer (some ⟨La.g, 0, none⟩), .int .i64 id, .int .i64 d, .int .i64 tm] W fun e w' => ∃ z : Int, e = .returned (.int .i64 z) ∧ Fin2 w st La.g Lb w' z :=
  (move_any T.a ho hn id d tm).mono fun _ _ h => ⟨_, h.1, fin_of T h (fun hz => move_same hz)⟩
theorem kp_go (tm : Int) : Calls Try.prog 13 #[.pointer (some ⟨La.g, 0, none⟩), .int .i64 tm] W fun e w' => ∃ y z : Int, e = .returned (.tuple #[.int .i64 y, .int .i64 z]) ∧ Fin2 w st La.g Lb w' z :=
  (go_any T.a ho (by omega) tm).mono fun _ _ h => ⟨_, _, h.1, fin_of T h (fun hz => go_same hz)⟩
theorem kp_worker (wi d : Int) : Calls Try.prog 14 #[.pointer (some ⟨La.g, 0, none⟩), .int .i64 wi, .int .i64 d] W fun e w' => ∃ z : Int, e = .returned (.int .i64 z) ∧ Fin2 w st La.g Lb w' z :=
  (worker_any T.a ho (by omega) wi d).mono fun _ _ h => ⟨_, h.1, fin_of T h (fun hz => worker_same hz)⟩
omit hn in
theorem kp_domain (hard : Bool) (cap : Int) : Calls Try.prog 15 #[.pointer (some ⟨La.g, 0, none⟩), .bool hard, .int .i64 cap] W fun e w' => ∃ y z : Int, e = .returned (.tuple #[.int .i64 y, .int .i64 z]) ∧ Fin2 w st La.g Lb w' z :=
  (domain_any T.a ho hard cap).mono fun _ _ h => ⟨_, _, h.1, fin_of T h (fun hz => domain_same hz)⟩
end
end
section
variable {H : Type} {enc : TypeId × Value → H} {P : Program} {w : World} {base : Nat} {spare : Nat → Bool} {held : Bool}
theorem open_op {r : Reach} {b0 : Nat} {t : TypeId} {fs gs : Array Field} {v : Value} {d : DataW H} {p : List MemPlace} (ht : P.underlying t = some (.struct fs)) (c8 : P.cellsOf t = 8)
    (hi : ∀ j, j < 4 → ∃ f, fs[j]? = some f ∧ f.offset = j ∧ P.cellsOf f.type = 1 ∧ P.underlying f.type = some (.int .i64))
    (hp : ∃ f, fs[4]? = some f ∧ f.offset = 4 ∧ P.cellsOf f.type = 3 ∧ P.underlying f.type = some (.struct gs))
    (hgs : ∀ j, j < 3 → ∃ f, gs[j]? = some f ∧ f.offset = j ∧ P.cellsOf f.type = 1 ∧ P.underlying f.type = some (.int .i64))
    (hb : ∃ f, fs[5]? = some f ∧ f.offset = 7 ∧ P.cellsOf f.type = 1 ∧ P.underlying f.type = some .bool)
    (hv : Value.okWide P w r b0 t v) (h : DataW.Trod enc P w base spare held t v d p) : ∃ o, v = opval o := by
  obtain ⟨cs, rfl, hsz⟩ := okWide_struct ht hv
  obtain ⟨fuel, hf⟩ := h
  obtain ⟨o, e⟩ := op_cells ht hi hp hgs hb hf (by simp [Value.cells]; rw [hsz, c8])
  have e2 : cs.toList = opcells o := by simpa [Value.cells] using e
  refine ⟨o, ?_⟩
  show Value.agg cs = Value.agg (opcells o).toArray
  rw [← e2]
end
end Go.Proofs.Ytmcilmmnpolieaa
/- LedgerKeeps answers true at every calls and every call. No condition. -/
namespace Go.Proofs.Ytmcilmmnpolieaa.ledgerKeeps
open Go.ChangeShapes Go.WideShapes Go.ChangeAt Go.RowKit Go.Joins Go.Shelf Go.Deep

set_option maxRecDepth 100000 in
set_option maxHeartbeats 4000000 in
theorem many (ask id d tm p1 p2 p3 : Int) (hard : Bool) (a : Option Addr) (len cap : Nat) (w : World) (hl : 60 < len) : Calls Try.prog 3 #[.slice a len cap, opval ⟨ask, id, d, tm, (p1, p2, p3), hard⟩] w (Gives (.bool true) w) := by
  unfold opval
  simp only
  have BF := Lib.hid (fun W => begun_far a len cap W hl)
  have BS := Lib.hid (fun W => begins_any W)
  have AW := Lib.hid (fun W => awake_any W)
  have b1 := bel_alloc (Below.refl w.heap.size w) (o := (.cells #[.int .i64 ask, .int .i64 id, .int .i64 d, .int .i64 tm, .int .i64 p1, .int .i64 p2, .int .i64 p3, .bool hard] 26))
  clear hl
  go_enter Try.func3, Try.ntmps3
  go_wp2_with fail
  refine (BF.out _).mono ?_
  rintro e w1 ⟨rfl, b2⟩
  go_wp2_with fail
  refine (BF.out _).mono ?_
  rintro e w2 ⟨rfl, b3⟩
  go_wp2_with fail
  refine (BS.out _).mono ?_
  rintro e w3 ⟨rfl, b4⟩
  go_wp2_with fail
  refine (AW.out _).mono ?_
  rintro e w4 ⟨rfl, b5⟩
  go_wp2_with fail
  go_ret
  exact ⟨rfl, bel_end (bel_end (bel_end (bel_end b1 b2) b3) b4) b5⟩
set_option maxRecDepth 100000 in
set_option maxHeartbeats 8000000 in
theorem few (ask id d tm p1 p2 p3 : Int) (hard : Bool) (a : Option Addr) (cap : Nat) (ops : List LOp) (w : World) (hl : ops.length ≤ 60) (hrow : ∀ j, j < ops.length → ∃ b off, a = some ⟨b, off, none⟩ ∧ b < w.heap.size ∧ OpAt w b (off + j * 8) (ops.getD j op0)) : Calls Try.prog 3 #[.slice a ops.length cap, opval ⟨ask, id, d, tm, (p1, p2, p3), hard⟩] w (Gives (.bool true) w) := by
  unfold opval
  simp only
  have AW := Lib.hid (fun W => awake_any W)
  have b1 := bel_alloc (Below.refl w.heap.size w) (o := (.cells #[.int .i64 ask, .int .i64 id, .int .i64 d, .int .i64 tm, .int .i64 p1, .int .i64 p2, .int .i64 p3, .bool hard] 26))
  have BG := Lib.hid (fun (W : World) (hW : Below w.heap.size w W) => begun_ok a cap ops W hl (fun j hj => by
    obtain ⟨b, off, h1, h2, h3⟩ := hrow j hj
    exact ⟨b, off, h1, Nat.lt_of_lt_of_le h2 hW.size, fun i hi => (hW.cell (p := ⟨b, off + j * 8 + i, none⟩) h2).trans (h3 i hi)⟩))
  have hok : LOk (runS (newLS 3) ops) 60 := (run_ok ops (new_ok (n := 3) (by omega))).mono (by omega)
  have HOK := Lib.hid hok
  generalize hst : runS (newLS 3) ops = st at *
  generalize hlen : ops.length = m at *
  have HB1 := Lib.hid b1
  have c0 : (w.alloc (.cells #[.int .i64 ask, .int .i64 id, .int .i64 d, .int .i64 tm, .int .i64 p1, .int .i64 p2, .int .i64 p3, .bool hard] 26)).cell? ⟨w.heap.size, 0, none⟩ = some (.int .i64 ask) := by go_simp
  have c1 : (w.alloc (.cells #[.int .i64 ask, .int .i64 id, .int .i64 d, .int .i64 tm, .int .i64 p1, .int .i64 p2, .int .i64 p3, .bool hard] 26)).cell? ⟨w.heap.size, 1, none⟩ = some (.int .i64 id) := by go_simp
  have c2 : (w.alloc (.cells #[.int .i64 ask, .int .i64 id, .int .i64 d, .int .i64 tm, .int .i64 p1, .int .i64 p2, .int .i64 p3, .bool hard] 26)).cell? ⟨w.heap.size, 2, none⟩ = some (.int .i64 d) := by go_simp
  have c3 : (w.alloc (.cells #[.int .i64 ask, .int .i64 id, .int .i64 d, .int .i64 tm, .int .i64 p1, .int .i64 p2, .int .i64 p3, .bool hard] 26)).cell? ⟨w.heap.size, 3, none⟩ = some (.int .i64 tm) := by go_simp
  have c4 : (w.alloc (.cells #[.int .i64 ask, .int .i64 id, .int .i64 d, .int .i64 tm, .int .i64 p1, .int .i64 p2, .int .i64 p3, .bool hard] 26)).cell? ⟨w.heap.size, 4, none⟩ = some (.int .i64 p1) := by go_simp
  have c5 : (w.alloc (.cells #[.int .i64 ask, .int .i64 id, .int .i64 d, .int .i64 tm, .int .i64 p1, .int .i64 p2, .int .i64 p3, .bool hard] 26)).cell? ⟨w.heap.size, 5, none⟩ = some (.int .i64 p2) := by go_simp
  have c6 : (w.alloc (.cells #[.int .i64 ask, .int .i64 id, .int .i64 d, .int .i64 tm, .int .i64 p1, .int .i64 p2, .int .i64 p3, .bool hard] 26)).cell? ⟨w.heap.size, 6, none⟩ = some (.int .i64 p3) := by go_simp
  have c7 : (w.alloc (.cells #[.int .i64 ask, .int .i64 id, .int .i64 d, .int .i64 tm, .int .i64 p1, .int .i64 p2, .int .i64 p3, .bool hard] 26)).cell? ⟨w.heap.size, 7, none⟩ = some (.bool hard) := by go_simp
  have lB : w.heap.size < (w.alloc (.cells #[.int .i64 ask, .int .i64 id, .int .i64 d, .int .i64 tm, .int .i64 p1, .int .i64 p2, .int .i64 p3, .bool hard] 26)).heap.size := by simp
  clear hst hlen hl hrow b1 hok
  go_enter Try.func3, Try.ntmps3
  go_wp2_with fail
  refine (BG.out _ HB1.out).mono ?_
  rintro e w1 ⟨⟨La, rfl, la1, ra⟩, b2⟩
  have HA1 := Lib.hid la1
  have HRA := Lib.hid ra
  have HB2 := Lib.hid b2
  clear la1 ra b2
  go_wp2_with fail
  refine (BG.out _ (bel_end HB1.out HB2.out)).mono ?_
  rintro e w2 ⟨⟨Lb, rfl, lb2, rb⟩, b3⟩
  have HT : Hid (Two w w2 st La Lb) := ⟨HA1.out.below b3, lb2, fun k hk hk2 => by have := HA1.out.lt k hk; have := rb k hk2; omega, fun k hk => Nat.le_trans HB1.out.size (HRA.out k hk), bel_end (bel_end HB1.out HB2.out) b3⟩
  have hs12 : (w.alloc (.cells #[.int .i64 ask, .int .i64 id, .int .i64 d, .int .i64 tm, .int .i64 p1, .int .i64 p2, .int .i64 p3, .bool hard] 26)).heap.size ≤ w1.heap.size := HB2.out.size
  have c0 := (b3.cell (p := ⟨w.heap.size, 0, none⟩) (Nat.lt_of_lt_of_le lB hs12)).trans ((HB2.out.cell (p := ⟨w.heap.size, 0, none⟩) lB).trans c0)
  have c1 := (b3.cell (p := ⟨w.heap.size, 1, none⟩) (Nat.lt_of_lt_of_le lB hs12)).trans ((HB2.out.cell (p := ⟨w.heap.size, 1, none⟩) lB).trans c1)
  have c2 := (b3.cell (p := ⟨w.heap.size, 2, none⟩) (Nat.lt_of_lt_of_le lB hs12)).trans ((HB2.out.cell (p := ⟨w.heap.size, 2, none⟩) lB).trans c2)
  have c3 := (b3.cell (p := ⟨w.heap.size, 3, none⟩) (Nat.lt_of_lt_of_le lB hs12)).trans ((HB2.out.cell (p := ⟨w.heap.size, 3, none⟩) lB).trans c3)
  have c4 := (b3.cell (p := ⟨w.heap.size, 4, none⟩) (Nat.lt_of_lt_of_le lB hs12)).trans ((HB2.out.cell (p := ⟨w.heap.size, 4, none⟩) lB).trans c4)
  have c5 := (b3.cell (p := ⟨w.heap.size, 5, none⟩) (Nat.lt_of_lt_of_le lB hs12)).trans ((HB2.out.cell (p := ⟨w.heap.size, 5, none⟩) lB).trans c5)
  have c6 := (b3.cell (p := ⟨w.heap.size, 6, none⟩) (Nat.lt_of_lt_of_le lB hs12)).trans ((HB2.out.cell (p := ⟨w.heap.size, 6, none⟩) lB).trans c6)
  have c7 := (b3.cell (p := ⟨w.heap.size, 7, none⟩) (Nat.lt_of_lt_of_le lB hs12)).trans ((HB2.out.cell (p := ⟨w.heap.size, 7, none⟩) lB).trans c7)
  have lB2 : w.heap.size < w2.heap.size := Nat.lt_of_lt_of_le lB (Nat.le_trans hs12 b3.size)
  have HAG : Hid (∀ W (La' : Lay), La'.g = La.g → LAt W La' st → La'.g < W.heap.size) := fun W La' _ h => led_lt h
  clear HA1 HRA HB1 HB2 lb2 rb b3 hs12 lB
  have K0 := Lib.hid (kp_join HT.out HOK.out (by omega) id d (p1, p2, p3))
  have K1 := Lib.hid (kp_change HT.out HOK.out (by omega) id (p1, p2, p3))
  have K2 := Lib.hid (kp_leave HT.out HOK.out (by omega) id tm)
  have K3 := Lib.hid (kp_move HT.out HOK.out (by omega) id d tm)
  have K4 := Lib.hid (kp_go HT.out HOK.out (by omega) tm)
  have K5 := Lib.hid (kp_worker HT.out HOK.out (by omega) id d)
  have K6 := Lib.hid (kp_domain HT.out HOK.out hard d)
  have HLB : Hid (Lb.g = Lb.g) := rfl
  obtain ⟨ga, hga⟩ : ∃ ga, ga = La.g := ⟨_, rfl⟩
  obtain ⟨gb, hgb⟩ : ∃ gb, gb = Lb.g := ⟨_, rfl⟩
  rw [← hga] at K0 K1 K2 K3 K4 K5 K6 ⊢
  rw [← hgb]
  have HGA := Lib.hid hga
  have HGB := Lib.hid hgb
  have HFN : Hid (Lb.g = gb) := hgb.symm
  clear hga hgb HT
  clear HLB HAG
  go_upto_block 0 with fail
  go_cut [7] from 36 to 97 (fun s7 wx => ∃ z : Int, s7 = .int .i64 z ∧ Hid (Fin2 w st ga Lb wx z))
  case first =>
    clear BG AW HGA HGB HFN
    by_cases h0 : ask = 0
    · subst h0
      clear K1 K2 K3 K4 K5 K6
      go_wp2_with fail
      refine K0.out.mono ?_
      rintro e w9 ⟨z, rfl, hf⟩
      have HF := Lib.hid hf
      clear hf K0 c0 c1 c2 c3 c4 c5 c6 c7 lB2
      go_wp2_with fail
      go_meet
      exact ⟨z, rfl, HF.out⟩
    clear K0
    have e0 : (ask == 0) = false := by rw [beq_eq_false_iff_ne]; exact h0
    clear h0
    by_cases h1 : ask = 1
    · subst h1
      clear K2 K3 K4 K5 K6
      go_wp2_with fail
      refine K1.out.mono ?_
      rintro e w9 ⟨z, rfl, hf⟩
      have HF := Lib.hid hf
      clear hf K1 c0 c1 c2 c3 c4 c5 c6 c7 lB2
      go_wp2_with fail
      go_meet
      exact ⟨z, rfl, HF.out⟩
    clear K1
    have e1 : (ask == 1) = false := by rw [beq_eq_false_iff_ne]; exact h1
    clear h1
    by_cases h2 : ask = 2
    · subst h2
      clear K3 K4 K5 K6
      go_wp2_with fail
      refine K2.out.mono ?_
      rintro e w9 ⟨z, rfl, hf⟩
      have HF := Lib.hid hf
      clear hf K2 c0 c1 c2 c3 c4 c5 c6 c7 lB2
      go_wp2_with fail
      go_meet
      exact ⟨z, rfl, HF.out⟩
    clear K2
    have e2 : (ask == 2) = false := by rw [beq_eq_false_iff_ne]; exact h2
    clear h2
    by_cases h3 : ask = 3
    · subst h3
      clear K4 K5 K6
      go_wp2_with fail
      refine K3.out.mono ?_
      rintro e w9 ⟨z, rfl, hf⟩
      have HF := Lib.hid hf
      clear hf K3 c0 c1 c2 c3 c4 c5 c6 c7 lB2
      go_wp2_with fail
      go_meet
      exact ⟨z, rfl, HF.out⟩
    clear K3
    have e3 : (ask == 3) = false := by rw [beq_eq_false_iff_ne]; exact h3
    clear h3
    by_cases h4 : ask = 4
    · subst h4
      clear K5 K6
      go_wp2_with fail
      refine K4.out.mono ?_
      rintro e w9 ⟨y, z, rfl, hf⟩
      have HF := Lib.hid hf
      clear hf K4 c0 c1 c2 c3 c4 c5 c6 c7 lB2
      go_wp2_with fail
      go_meet
      exact ⟨z, rfl, HF.out⟩
    clear K4
    have e4 : (ask == 4) = false := by rw [beq_eq_false_iff_ne]; exact h4
    clear h4
    by_cases h5 : ask = 5
    · subst h5
      clear K6
      go_wp2_with fail
      refine K5.out.mono ?_
      rintro e w9 ⟨z, rfl, hf⟩
      have HF := Lib.hid hf
      clear hf K5 c0 c1 c2 c3 c4 c5 c6 c7 lB2
      go_wp2_with fail
      go_meet
      exact ⟨z, rfl, HF.out⟩
    clear K5
    have e5 : (ask == 5) = false := by rw [beq_eq_false_iff_ne]; exact h5
    clear h5
    skip
    go_wp2_with fail
    refine K6.out.mono ?_
    rintro e w9 ⟨y, z, rfl, hf⟩
    have HF := Lib.hid hf
    clear hf K6 c0 c1 c2 c3 c4 c5 c6 c7 lB2
    go_wp2_with fail
    go_meet
    exact ⟨z, rfl, HF.out⟩
  case rest =>
    obtain ⟨z, rfl, HF⟩ := hcut
    clear K0 K1 K2 K3 K4 K5 K6 c0 c1 c2 c3 c4 c5 c6 c7 lB2 BG
    by_cases hz : z = 0
    · subst hz
      have HB := Lib.hid HF.out.1
      clear HF
      go_wp2_with fail
      refine (AW.out _).mono ?_
      rintro e w4 ⟨rfl, b5⟩
      go_wp2_with fail
      go_ret
      exact ⟨rfl, bel_end HB.out b5⟩
    · have dz : (z == 0) = false := by rw [beq_eq_false_iff_ne]; exact hz
      obtain ⟨La', la', ga', lb'⟩ := HF.out.2 hz
      have HB := Lib.hid HF.out.1
      have HLA := Lib.hid la'
      have HLB := Lib.hid lb'
      have HGA' := Lib.hid ga'
      have lga : ga < wc.heap.size := by rw [← ga']; exact led_lt la'
      have lgb : gb < wc.heap.size := by rw [HGB.out]; exact led_lt lb'
      clear HF hz la' ga' lb'
      go_wp2_with fail
      go_loopg [8] 64 (fun kx s8 wr => ∃ k : Nat, s8 = .int .i64 k ∧ k ≤ 64 ∧ 64 - k ≤ kx ∧ Hid (Below wc.heap.size wc wr))
      case atStart => exact ⟨0, rfl, by omega, by omega, Below.refl _ _⟩
      case round =>
        obtain ⟨k, rfl, hk, hkx, HR⟩ := hrel
        by_cases hlt : k < 64
        · have hltz : (k : Int) < 64 := by omega
          have WA := Lib.hid (fun (W : World) (hW : Below wc.heap.size wc W) => where_any (HLA.out.below hW) k hlt)
          have WB := Lib.hid (fun (W : World) (hW : Below wc.heap.size wc W) => where_any (HLB.out.below hW) k hlt)
          rw [HGA'.out] at WA
          rw [← HGB.out] at WB
          generalize (whOf st k).1 = z0 at *
          generalize (whOf st k).2.1.1 = z1 at *
          generalize (whOf st k).2.1.2.1 = z2 at *
          generalize (whOf st k).2.1.2.2 = z3 at *
          generalize (whOf st k).2.2 = z4 at *
          go_wp2_with fail
          refine (WA.out _ HR.out).mono ?_
          rintro e w3 ⟨rfl, b3⟩
          have HR3 := Lib.hid (bel_end HR.out b3)
          clear b3
          go_wp2_with fail
          refine (WB.out _ (bel_alloc HR3.out)).mono ?_
          rintro e w4 ⟨rfl, b4⟩
          have q0 := (b4.cell (p := ⟨w3.heap.size, 0, none⟩) (by simp)).trans (show _ = some (Value.int .i64 z1) by go_simp)
          have q1 := (b4.cell (p := ⟨w3.heap.size, 1, none⟩) (by simp)).trans (show _ = some (Value.int .i64 z2) by go_simp)
          have q2 := (b4.cell (p := ⟨w3.heap.size, 2, none⟩) (by simp)).trans (show _ = some (Value.int .i64 z3) by go_simp)
          have lq := cell_lt q0
          have HR4 := Lib.hid (bel_end (bel_alloc HR3.out) b4)
          clear b4
          go_wp2_with fail
          go_roundg (64 - (k + 1))
          case measure => omega
          case rel => exact ⟨k + 1, by first | rfl | (congr 1; done) | (congr 1; omega) | (simp; omega), by omega, Nat.le_refl _, by show Below wc.heap.size wc _; (repeat (first | with_reducible refine bel_alloc ?_ | with_reducible refine bel_drew ?_)); exact HR4.out⟩
        · obtain rfl : k = 64 := by omega
          go_wp2_with fail
          have HR0 := Lib.hid HR.out
          clear HR hkx hk hlt
          go_loopg [15] 8 (fun kx s15 wr => ∃ k : Nat, s15 = .int .i64 k ∧ k ≤ 8 ∧ 8 - k ≤ kx ∧ Hid (Below wc.heap.size wc wr))
          case atStart => exact ⟨0, rfl, by omega, by omega, HR0.out⟩
          case round =>
            clear HR0
            obtain ⟨k, rfl, hk, hkx, HR⟩ := hrel
            by_cases hlt : k < 8
            · have hltz : (k : Int) < 8 := by omega
              have RA := Lib.hid (fun (W : World) (hW : Below wc.heap.size wc W) => rule_any2 (HLA.out.below hW) HOK.out.nd.1 k)
              have RB := Lib.hid (fun (W : World) (hW : Below wc.heap.size wc W) => rule_any2 (HLB.out.below hW) HOK.out.nd.1 k)
              have OA := Lib.hid (fun (W : World) (hW : Below wc.heap.size wc W) => owed_any (HLA.out.below hW) HOK.out (by omega) k)
              have OB := Lib.hid (fun (W : World) (hW : Below wc.heap.size wc W) => owed_any (HLB.out.below hW) HOK.out (by omega) k)
              have VA := Lib.hid (fun (W : World) (hW : Below wc.heap.size wc W) => workers_any (HLA.out.below hW) HOK.out.nw k)
              have VB := Lib.hid (fun (W : World) (hW : Below wc.heap.size wc W) => workers_any (HLB.out.below hW) HOK.out.nw k)
              rw [HGA'.out] at RA OA VA
              rw [← HGB.out] at RB OB VB
              generalize (ruOf st k).1 = z0 at *
              generalize (ruOf st k).2.1 = z1 at *
              generalize (ruOf st k).2.2.1 = z2 at *
              generalize (ruOf st k).2.2.2 = z3 at *
              generalize olOf st k = ol at *
              generalize wof st k st.nw = wl at *
              go_wp2_with fail
              refine (RA.out _ HR.out).mono ?_
              rintro e w3 ⟨rfl, b3⟩
              have HR3 := Lib.hid (bel_end HR.out b3)
              clear b3
              go_wp2_with fail
              refine (RB.out _ (bel_alloc HR3.out)).mono ?_
              rintro e w4 ⟨rfl, b4⟩
              have q0 := (b4.cell (p := ⟨w3.heap.size, 0, none⟩) (by simp)).trans (show _ = some (Value.bool z0) by go_simp)
              have q1 := (b4.cell (p := ⟨w3.heap.size, 1, none⟩) (by simp)).trans (show _ = some (Value.int .i64 z1) by go_simp)
              have q2 := (b4.cell (p := ⟨w3.heap.size, 2, none⟩) (by simp)).trans (show _ = some (Value.int .i64 z2) by go_simp)
              have lq := cell_lt q0
              have HR4 := Lib.hid (bel_end (bel_alloc HR3.out) b4)
              clear b4
              go_wp2_with fail
              refine (OA.out _ (bel_alloc HR4.out)).mono ?_
              rintro e w5 ⟨⟨a5, c5, rfl⟩, b5⟩
              have HR5 := Lib.hid (bel_end (bel_alloc HR4.out) b5)
              clear b5 q0 q1 q2 lq
              go_wp2_with fail
              refine (OB.out _ HR5.out).mono ?_
              rintro e w6 ⟨⟨a6, c6, rfl⟩, b6⟩
              have HR6 := Lib.hid (bel_end HR5.out b6)
              clear b6
              go_wp2_with fail
              refine (VA.out _ HR6.out).mono ?_
              rintro e w7 ⟨a7, c7, rfl, _, b7⟩
              have HR7 := Lib.hid (bel_end HR6.out b7)
              clear b7
              go_wp2_with fail
              refine (VB.out _ HR7.out).mono ?_
              rintro e w8 ⟨a8, c8, rfl, _, b8⟩
              have HR8 := Lib.hid (bel_end HR7.out b8)
              clear b8
              go_wp2_with fail
              go_roundg (8 - (k + 1))
              case measure => omega
              case rel => exact ⟨k + 1, by first | rfl | (congr 1; done) | (congr 1; omega) | (simp; omega), by omega, Nat.le_refl _, HR8.out⟩
            · obtain rfl : k = 8 := by omega
              have NA := Lib.hid (fun (W : World) (hW : Below wc.heap.size wc W) => now_any (HLA.out.below hW))
              have NB := Lib.hid (fun (W : World) (hW : Below wc.heap.size wc W) => now_any (HLB.out.below hW))
              rw [HGA'.out] at NA
              rw [← HGB.out] at NB
              generalize st.now = sn at *
              go_wp2_with fail
              refine (NA.out _ HR.out).mono ?_
              rintro e w3 ⟨rfl, hw3⟩
              obtain rfl := hw3.symm
              go_wp2_with fail
              refine (NB.out _ HR.out).mono ?_
              rintro e w3 ⟨rfl, hw3⟩
              obtain rfl := hw3.symm
              go_wp2_with fail
              refine (AW.out _).mono ?_
              rintro e w4 ⟨rfl, b4⟩
              have HE := Lib.hid (bel_end (bel_end HB.out HR.out) b4)
              go_wp2_with fail
              go_ret
              exact ⟨rfl, HE.out⟩
theorem walk (v : Value) (ops : List LOp) (o : LOp) (w : World) (h : OpRow w v ops) : Calls Try.prog 3 #[v, opval o] w (Gives (.bool true) w) := by
  obtain ⟨a, cap, rfl, hrow⟩ := oprow_shape h
  obtain ⟨ask, id, d, tm, ⟨p1, p2, p3⟩, hard⟩ := o
  by_cases hl : ops.length ≤ 60
  · exact few ask id d tm p1 p2 p3 hard a cap ops w hl hrow
  · exact many ask id d tm p1 p2 p3 hard a ops.length cap w (by omega)
set_option maxRecDepth 100000 in
theorem lifted (os : Os) (started : os.Started) (H : Type) (enc : TypeId × Value → H) :
    ReturnsInHanded {} Try.checked os 3 .any (Rows.ledgerKeepsSpec.pre6 enc Try.prog Try.f3 Rows.ledgerKeepsRow.domain false) (Rows.ledgerKeepsSpec.post enc Try.prog Try.f3 false true false false) := by
  refine returnsInHanded_of_change (C := Try.checked) own started (by kernel_rfl) Try.func3
    (ChangeSpec.witness6 (enc := enc) (C := Try.checked) false ⟨#[], #[.slice none 0 0, .agg #[.int .i64 0, .int .i64 0, .int .i64 0, .int .i64 0, .int .i64 0, .int .i64 0, .int .i64 0, .bool false]], []⟩ 8 (by kernel_rfl) (by kernel_rfl) (by kernel_rfl) (by kernel_rfl)) ?_
  intro W base args ds gs before hval0 hW hcnd _
  have hval : ∀ (j : Nat) t v, Try.f3.params[j]? = some t → args[j]? = some v → Value.okWide Try.prog W .any base t v := hval0
  have hW' := hW
  obtain ⟨p, q, hA0, hV, _, hfz, hnd⟩ := hW'
  have hA : DataW.TrodAll enc Try.prog W 0 (fun _ => true) true Try.f3.params.toList args.toList ds p := hA0
  rw [Try.params3] at hA hval
  obtain ⟨v0, v1, d0, d1, p0, p1, rfl, _, _, h0, h1⟩ := trodAll_two hA
  obtain ⟨l, hl, _⟩ := open_ops Try.underlying22 Try.underlying26 (by kernel_rfl) (fun i hi => by match i, hi with | 0, _ => exact ⟨_, rfl, rfl, by kernel_rfl, Try.underlying3⟩ | 1, _ => exact ⟨_, rfl, rfl, by kernel_rfl, Try.underlying3⟩ | 2, _ => exact ⟨_, rfl, rfl, by kernel_rfl, Try.underlying3⟩ | 3, _ => exact ⟨_, rfl, rfl, by kernel_rfl, Try.underlying3⟩) ⟨_, rfl, rfl, by kernel_rfl, Try.underlying24⟩ (fun i hi => by match i, hi with | 0, _ => exact ⟨_, rfl, rfl, by kernel_rfl, Try.underlying3⟩ | 1, _ => exact ⟨_, rfl, rfl, by kernel_rfl, Try.underlying3⟩ | 2, _ => exact ⟨_, rfl, rfl, by kernel_rfl, Try.underlying3⟩) ⟨_, rfl, rfl, by kernel_rfl, Try.underlying4⟩ (hval 0 22 v0 rfl rfl) h0
  obtain ⟨o, rfl⟩ := open_op Try.underlying26 (by kernel_rfl) (fun i hi => by match i, hi with | 0, _ => exact ⟨_, rfl, rfl, by kernel_rfl, Try.underlying3⟩ | 1, _ => exact ⟨_, rfl, rfl, by kernel_rfl, Try.underlying3⟩ | 2, _ => exact ⟨_, rfl, rfl, by kernel_rfl, Try.underlying3⟩ | 3, _ => exact ⟨_, rfl, rfl, by kernel_rfl, Try.underlying3⟩) ⟨_, rfl, rfl, by kernel_rfl, Try.underlying24⟩ (fun i hi => by match i, hi with | 0, _ => exact ⟨_, rfl, rfl, by kernel_rfl, Try.underlying3⟩ | 1, _ => exact ⟨_, rfl, rfl, by kernel_rfl, Try.underlying3⟩ | 2, _ => exact ⟨_, rfl, rfl, by kernel_rfl, Try.underlying3⟩) ⟨_, rfl, rfl, by kernel_rfl, Try.underlying4⟩ (hval 1 26 v1 rfl rfl) h1
  refine (walk v0 l o W hl).mono fun e W' h => ?_
  exact law_post (f := Try.f3) rfl rfl Try.underlying4 (by kernel_rfl) (fun ds hd => by
    match ds, hd with
    | [_, _], _ => rfl) hW h

theorem over : Rows.ledgerKeepsRow.holds Try.pinned (OpenSpec.ofChange Rows.ledgerKeepsSpec) :=
  OpenClaim.holds_of_wide 3 Try.f3 rfl rfl rfl rfl rfl rfl rfl ⟨rfl, rfl, rfl, rfl, rfl⟩ rfl rfl rfl rfl rfl (by kernel_rfl) Try.func3 (by kernel_rfl)
    (of_decide_eq_true (by kernel_rfl)) (by unfold Func.isWrapper; first | (rw [if_pos (by decide +kernel)]; kernel_rfl) | (rw [if_neg (by decide +kernel)]; exact ⟨rfl, rfl⟩))
    (fun os started H enc _ => lifted os started H enc)

/-- THE STATEMENT. -/
theorem proved : Rows.LedgerKeepsSaid := over
end Go.Proofs.Ytmcilmmnpolieaa.ledgerKeeps
