/- What ledger.passes answers. What ledger.Join answers, and what it turns. A ledger behind a domain's other row. What ledger.Domain and ledger.New answer, and what they turn. What ledger.Worker answers, and what it turns. What ledger.Worker answers of any worker and any domain. What ledger.Change answers, and what it turns. Each theorem's premises are its conditions. -/
import Derived.Test.YtmcilmmnpolieaaK19
import Derived.Test.YtmcilmmnpolieaaK20
import Derived.Test.YtmcilmmnpolieaaK21
import Derived.Deep.RegionHeld3
import Derived.Deep.AppendLies
import Derived.Laws.EntriesVeiled
import Derived.OwnWalk
/- What ledger.passes answers. Each theorem's premises are its conditions. -/
namespace Go.Proofs.Ytmcilmmnpolieaa
open Go.ChangeShapes Go.WideShapes Go.ChangeAt Go.RowKit Go.Shelf Go.Deep

section
variable {w : World} {L : Lay} {st : LS}
theorem passes_out (h : LAt w L st) (h0 : 0 < st.nd) (d : Int) (hd : ¬ (0 ≤ d ∧ d < st.nd)) (but : Int) (p : P3) :
    Calls Try.prog 29 #[.pointer (some ⟨L.g, 0, none⟩), .int .i64 d, .int .i64 but, .agg #[.int .i64 p.1, .int .i64 p.2.1, .int .i64 p.2.2]] w (Gives (.int .i64 14) w) := by
  have b1 := bel_alloc (Below.refl w.heap.size w) (o := .cells #[.int .i64 p.1, .int .i64 p.2.1, .int .i64 p.2.2] 24)
  have C := Lib.hid (dfind_out (h.below b1) h0 d hd)
  generalize L.g = g at *
  clear h hd
  go_enter Try.func29, Try.ntmps29
  go_wp2_with fail
  refine C.out.mono ?_
  rintro e w1 ⟨rfl, rfl⟩
  go_wp2_with fail
  go_ret
  exact ⟨rfl, b1⟩
theorem passes_none (h : LAt w L st) (d : Nat) (hd : d < st.nd) (hw : (st.dom d).wk = 0) (but : Int) (p : P3) :
    Calls Try.prog 29 #[.pointer (some ⟨L.g, 0, none⟩), .int .i64 d, .int .i64 but, .agg #[.int .i64 p.1, .int .i64 p.2.1, .int .i64 p.2.2]] w (Gives (.int .i64 16) w) := by
  have b1 := bel_alloc (Below.refl w.heap.size w) (o := .cells #[.int .i64 p.1, .int .i64 p.2.1, .int .i64 p.2.2] 24)
  have C := Lib.hid (dfind_in (h.below b1) d hd)
  have hD := (h.below b1).dom d hd
  have x2 := hD.wk
  rw [hw] at x2
  have lb := (h.below b1).lt _ (by rw [hD.role]; exact fun e => by cases e)
  unfold ptr at C
  generalize L.g = g at *
  generalize L.db d = m at *
  clear h hd hD hw
  go_enter Try.func29, Try.ntmps29
  go_wp2_with fail
  refine C.out.mono ?_
  rintro e w1 ⟨rfl, rfl⟩
  go_wp2_with fail
  go_ret
  exact ⟨rfl, b1⟩
/-- what lies at a domain's rule, and in the box of params. -/
def RuleBox (W : World) (m : Nat) (x : Dom) (b : Nat) (p : P3) : Prop := W.cell? ⟨m, 0, none⟩ = some (.bool x.hard) ∧ W.cell? ⟨m, 1, none⟩ = some (.int .i64 x.cap) ∧ W.cell? ⟨m, 2, none⟩ = some (.int .i64 x.wk) ∧ W.cell? ⟨b, 0, none⟩ = some (.int .i64 p.1) ∧ W.cell? ⟨b, 1, none⟩ = some (.int .i64 p.2.1) ∧ W.cell? ⟨b, 2, none⟩ = some (.int .i64 p.2.2)
theorem RuleBox.below {W W' : World} {m b : Nat} {x : Dom} {p : P3} (h : RuleBox W m x b p) (k : Below W.heap.size W W') : RuleBox W' m x b p := by
  obtain ⟨h0, h1, h2, h3, h4, h5⟩ := h
  exact ⟨(k.cell (cell_lt h0)).trans h0, (k.cell (cell_lt h1)).trans h1, (k.cell (cell_lt h2)).trans h2, (k.cell (cell_lt h3)).trans h3, (k.cell (cell_lt h4)).trans h4, (k.cell (cell_lt h5)).trans h5⟩
theorem app_owns {W : World} {B : Nat} {v : Value} {qs : List P3} {p : P3} (k : W.ownsRow B 24 3 v (qs.length + 1) (pcells qs ++ pcells [p])) : Owns W B v (qs ++ [p]) := by
  show W.ownsRow _ _ _ _ _ _
  rw [pcells_append, List.length_append]
  exact k
theorem news_below {W W' : World} {b : Nat} {xs : List Value} (k : Below W.heap.size W W') (hb : b < W.heap.size) (h : ∀ j u, xs[j]? = some u → W.cell? ((Addr.mk b 0 none).add j) = some u) : ∀ j u, xs[j]? = some u → W'.cell? ((Addr.mk b 0 none).add j) = some u := fun j u hj => by
  refine (k.cell ?_).trans (h j u hj)
  have e : (Addr.mk b 0 none).add j = ⟨b, j, none⟩ := by unfold Addr.add; split <;> simp_all
  rw [e]
  exact hb
theorem app_below {W0 W W2 w3 : World} {B C e s n : Nat} {v : Value} {xs : List Value} (h : Below C W0 W) (hC : C ≤ B) (hCW : C ≤ W.heap.size) (ho : W2.ownsRow B e s v n xs) (hg : W.grownBy w3 v.ownBlock) : Below C W0 w3 :=
  h.grown hg hCW fun k e => Nat.le_trans hC (ho.lt k e).1
set_option maxRecDepth 100000 in
set_option maxHeartbeats 4000000 in
theorem passes_in (h : LAt w L st) {n : Nat} (ho : LOk st n) (hn : n ≤ 900) (d : Nat) (hd : d < st.nd) (hw : ¬ (st.dom d).wk = 0) (but : Int) (p : P3) :
    Calls Try.prog 29 #[.pointer (some ⟨L.g, 0, none⟩), .int .i64 d, .int .i64 but, .agg #[.int .i64 p.1, .int .i64 p.2.1, .int .i64 p.2.2]] w (Gives (.int .i64 (testNum (st.dom d).hard (st.dom d).cap (st.dom d).wk (allOf st d but ++ [p]))) w) := by
  obtain ⟨i0, hi, hz0, hz1, hz2⟩ := info_parts Try.infoParams
  have b1 := bel_alloc (Below.refl w.heap.size w) (o := .cells #[.int .i64 p.1, .int .i64 p.2.1, .int .i64 p.2.2] 24)
  have C := Lib.hid (dfind_in (h.below b1) d hd)
  have hD := (h.below b1).dom d hd
  have hlen := ol_len h ho hd
  have hml := members_le st d but 64
  have PA := Lib.hid (fun W (k : Below (w.alloc (.cells #[.int .i64 p.1, .int .i64 p.2.1, .int .i64 p.2.2] 24)).heap.size (w.alloc (.cells #[.int .i64 p.1, .int .i64 p.2.1, .int .i64 p.2.2] 24)) W) => SeqG.params_any ((h.below b1).below k) d hd (by omega) but)
  have lb := (h.below b1).lt _ (by rw [hD.role]; exact fun e => by cases e)
  have TA := Lib.hid (test_perm (st.dom d).hard (st.dom d).cap (st.dom d).wk ((all_perm h hd but).append_right [p]))
  have hq : (members st d but 64 ++ (L.ol d).map (·.p)).length ≤ 964 := by rw [List.length_append, List.length_map]; omega
  generalize members st d but 64 ++ (L.ol d).map (·.p) = qs at *
  generalize testNum (st.dom d).hard (st.dom d).cap (st.dom d).wk (allOf st d but ++ [p]) = T at *
  have hR : RuleBox (w.alloc (.cells #[.int .i64 p.1, .int .i64 p.2.1, .int .i64 p.2.2] 24)) (L.db d) (st.dom d) w.heap.size p := ⟨hD.hard, hD.cap, hD.wk, by rw [cell_new]; rfl, by rw [cell_new]; rfl, by rw [cell_new]; rfl⟩
  have x2 := hD.wk
  have d1 : ((st.dom d).wk == 0) = false := by rw [beq_eq_false_iff_ne]; exact hw
  unfold ptr at C
  generalize L.g = g at *
  generalize L.db d = m at *
  generalize st.dom d = x at *
  obtain ⟨xh, xc, xk, xo⟩ := x
  have HS := Lib.hid (fun W (k : Below (w.alloc (.cells #[.int .i64 p.1, .int .i64 p.2.1, .int .i64 p.2.2] 24)).heap.size (w.alloc (.cells #[.int .i64 p.1, .int .i64 p.2.1, .int .i64 p.2.2] 24)) W) => hR.below k)
  unfold RuleBox at HS
  simp only at HS TA x2 d1
  have HB := Lib.hid b1
  have HN := Lib.hid (fun W => SeqG.new_row3 p W)
  have HN2 : Hid (∀ (W : World), W.heap.size = w.heap.size + 1 → ∀ j u, (pcells [p])[j]? = some u → (W.alloc (.cells #[.int .i64 p.1, .int .i64 p.2.1, .int .i64 p.2.2] 24)).cell? ((Addr.mk (w.heap.size + 1) 0 none).add j) = some u) := fun W hW => by rw [← hW]; exact SeqG.new_row3 p W
  have TT := Lib.hid (fun (W : World) (B : Nat) (v : Value) (k : W.ownsRow B 24 3 v (qs.length + 1) (pcells qs ++ pcells [p])) => test_any xh xc xk v (qs ++ [p]) W (owns_row (app_owns k)).1 (by rw [List.length_append]; simp; omega))
  rw [TA.out] at TT
  clear h hD hd hw ho hn hml hR b1
  go_enter Try.func29, Try.ntmps29
  go_wp2_with fail
  refine C.out.mono ?_
  rintro e w1 ⟨rfl, rfl⟩
  go_wp2_with fail
  have R0 := Below.refl (w.alloc (.cells #[.int .i64 p.1, .int .i64 p.2.1, .int .i64 p.2.2] 24)).heap.size (w.alloc (.cells #[.int .i64 p.1, .int .i64 p.2.1, .int .i64 p.2.2] 24))
  go_region_held3 (fun w' => (w'.cell? ⟨m, 0, none⟩ = some (.bool xh) ∧ w'.cell? ⟨m, 1, none⟩ = some (.int .i64 xc) ∧ w'.cell? ⟨m, 2, none⟩ = some (.int .i64 xk) ∧ w'.cell? ⟨w.heap.size, 0, none⟩ = some (.int .i64 p.1) ∧ w'.cell? ⟨w.heap.size, 1, none⟩ = some (.int .i64 p.2.1) ∧ w'.cell? ⟨w.heap.size, 2, none⟩ = some (.int .i64 p.2.2)) ∧ Below (w.alloc (.cells #[.int .i64 p.1, .int .i64 p.2.1, .int .i64 p.2.2] 24)).heap.size (w.alloc (.cells #[.int .i64 p.1, .int .i64 p.2.1, .int .i64 p.2.2] 24)) w')
    (refine ⟨HS.out _ ?_, ?_⟩ <;> (repeat (first | assumption | with_reducible refine bel_alloc ?_ | with_reducible refine bel_drew ?_)))
    (first
      | (go_at_call 38; go_split_ands; (with_reducible refine (PA.out _ (by assumption)).mono ?_); rintro e w9 ⟨v9, rfl, o9, b9⟩; have R9 := bel_end (by assumption) b9; have s9 := R9.size; try simp only [World.size_alloc] at s9)
      | (go_at_call 23; go_split_ands; (have K9 := TT.out _ _ _ hown1); go_loud (with_reducible refine K9.mono ?_); rintro e w12 ⟨rfl, b12⟩; have R12 := bel_end (by assumption) b12)
      | (refine step_append_lies _ (by rfl) _ _ _ (by rfl) _ 24 i0 _ 3 24 Try.underlying50 hi hz0 hz1 hz2 rfl (by omega) _ qs.length (pcells qs) (by rfl) (o9.alloc _)
            ⟨w9.heap.size, 0, none⟩ 1 1 (pcells [p]) (by rfl) (by rfl) (HN.out _) (pcells_one _)
            (by omega) (by unfold maxLen; omega) (by omega) (by simp; omega) (w9.heap.size + 1) (by simp) ?_; intro gg cap1 w11 hown1 hgrow hat hlt1; have R11 : Below (w.alloc (.cells #[.int .i64 p.1, .int .i64 p.2.1, .int .i64 p.2.2] 24)).heap.size (w.alloc (.cells #[.int .i64 p.1, .int .i64 p.2.1, .int .i64 p.2.2] 24)) w11 := app_below (bel_alloc R9) (by first | exact Nat.le_refl _ | (simp; done) | (simp; omega)) (bel_alloc R9).size o9 hgrow)
      | (refine step_append_lies _ (by rfl) _ _ _ (by rfl) _ 24 i0 _ 3 24 Try.underlying50 hi hz0 hz1 hz2 rfl (by omega) _ qs.length (pcells qs) (by rfl) o9
            ⟨w.heap.size + 1, 0, none⟩ 1 1 (pcells [p]) (by rfl) (by rfl) (news_below b9 (by simp) (HN2.out _ (by simp))) (pcells_one _)
            (by omega) (by unfold maxLen; omega) (by omega) b9.size w9.heap.size rfl ?_; intro gg cap1 w11 hown1 hgrow hat hlt1; have R11 : Below (w.alloc (.cells #[.int .i64 p.1, .int .i64 p.2.1, .int .i64 p.2.2] 24)).heap.size (w.alloc (.cells #[.int .i64 p.1, .int .i64 p.2.1, .int .i64 p.2.2] 24)) w11 := app_below R9 (by first | exact Nat.le_refl _ | (simp; done) | (simp; omega)) R9.size o9 hgrow)
      | fail)
  all_goals (go_wp2_with fail; go_ret; exact ⟨rfl, bel_end HB.out (by assumption)⟩)
end
end Go.Proofs.Ytmcilmmnpolieaa
/- What ledger.Join answers, and what it turns. Each theorem's premises are its conditions. -/
namespace Go.Proofs.Ytmcilmmnpolieaa
open Go.ChangeShapes Go.WideShapes Go.ChangeAt Go.RowKit Go.Shelf Go.Deep

/-- behind a call: the ledger is in the state s; the rest of memory is as it was. -/
def Turns (w : World) (L : Lay) (s : LS) (e : Ending) (v : Value) (w' : World) : Prop := e = .returned v ∧ ∃ L', LAt w' L' s ∧ Next w L w' L'
theorem Turns.same {w w' : World} {L : Lay} {st : LS} {v : Value} (h : LAt w L st) (hb : Below w.heap.size w w') : Turns w L st (.returned v) v w' := ⟨rfl, L, h.below hb, Next.of_below L hb⟩
theorem Next.drew {w w' : World} {L L' : Lay} (h : Next w L w' L') : Next w L w'.drew L' := h.trans (Next.of_below L' (Below.refl _ _).drew)
section
variable {w : World} {L : Lay} {st : LS} {n : Nat}
/-- passes, in one. -/
theorem passes_any (h : LAt w L st) (ho : LOk st n) (hn : n ≤ 900) (d but : Int) (p : P3) :
    Calls Try.prog 29 #[.pointer (some ⟨L.g, 0, none⟩), .int .i64 d, .int .i64 but, .agg #[.int .i64 p.1, .int .i64 p.2.1, .int .i64 p.2.2]] w (Gives (.int .i64 (passS st d but p)) w) := by
  unfold passS
  by_cases hd : 0 ≤ d ∧ d < st.nd
  · rw [if_pos hd]
    obtain ⟨k, rfl⟩ : ∃ k : Nat, d = k := ⟨d.toNat, by omega⟩
    have hk : k < st.nd := by omega
    simp only [Int.toNat_natCast]
    by_cases hw : (st.dom k).wk = 0
    · rw [if_pos hw]; exact passes_none h k hk hw but p
    · rw [if_neg hw]; exact passes_in h ho hn k hk hw but p
  · rw [if_neg hd]
    exact passes_out h ho.nd.1 d hd but p
set_option maxHeartbeats 1000000 in
theorem join_any (h : LAt w L st) (ho : LOk st n) (hn : n ≤ 900) (id d : Int) (p : P3) :
    Calls Try.prog 9 #[.pointer (some ⟨L.g, 0, none⟩), .int .i64 id, .int .i64 d, .agg #[.int .i64 p.1, .int .i64 p.2.1, .int .i64 p.2.2]] w fun e w' => Turns w L (joinS st id d p).1 e (.int .i64 (joinS st id d p).2) w' := by
  have b1 := bel_alloc (Below.refl w.heap.size w) (o := .cells #[.int .i64 p.1, .int .i64 p.2.1, .int .i64 p.2.2] 24)
  have h1 := h.below b1
  by_cases hid : 0 ≤ id ∧ id < 64
  · obtain ⟨i, rfl⟩ : ∃ k : Nat, id = k := ⟨id.toNat, by omega⟩
    have hi : i < 64 := by omega
    cases hs : st.srv i with
    | some s =>
      have e0 : joinS st i d p = (st, 15) := by unfold joinS; rw [if_pos hid]; simp only [Int.toNat_natCast, hs]
      rw [e0]
      have C := Lib.hid (sfind_some h1 i hi hs)
      have HL := Lib.hid h
      have HB := Lib.hid b1
      unfold ptr at C
      obtain ⟨g, hg⟩ : ∃ g, g = L.g := ⟨_, rfl⟩
      rw [← hg] at C ⊢
      clear h h1 hs e0 b1 hg
      go_enter Try.func9, Try.ntmps9
      go_wp2_with fail
      refine C.out.mono ?_
      rintro e w1 ⟨rfl, rfl⟩
      go_wp2_with fail
      go_ret
      exact Turns.same HL.out HB.out
    | none =>
      have C := Lib.hid (sfind_none h1 i hi hs)
      have PA := Lib.hid (passes_any h1 ho hn d (-1) p)
      by_cases hp : passS st d (-1) p = 0
      · have e0 : joinS st i d p = ({ st with srv := upd st.srv i (some (d.toNat, p)) }, 0) := by unfold joinS; rw [if_pos hid]; simp only [Int.toNat_natCast, hs]; rw [if_pos hp]
        rw [e0]
        obtain ⟨hd0, hd1⟩ := pass_in hp
        rw [hp] at PA
        obtain ⟨dn, rfl⟩ : ∃ k : Nat, d = k := ⟨d.toNat, by omega⟩
        simp only [Int.toNat_natCast]
        have HL := Lib.hid h
        have HB := Lib.hid b1
        obtain ⟨g, hg⟩ : ∃ g, g = L.g := ⟨_, rfl⟩
        rw [← hg] at C PA ⊢
        have HG := Lib.hid hg
        have hiz : (i : Int) < 64 := by omega
        clear h h1 e0 b1 hg hp hd0 hd1
        go_enter Try.func9, Try.ntmps9
        go_wp2_with fail
        refine C.out.mono ?_
        rintro e w1 ⟨rfl, rfl⟩
        go_wp2_with fail
        refine PA.out.mono ?_
        rintro e w2 ⟨rfl, b2⟩
        have hb2 : Below w.heap.size w w2 := bel_end HB.out b2
        have hL2 := HL.out.below hb2
        have q0 := (b2.cell (p := ⟨w.heap.size, 0, none⟩) (by simp)).trans (show _ = some (Value.int .i64 p.1) by go_simp)
        have q1 := (b2.cell (p := ⟨w.heap.size, 1, none⟩) (by simp)).trans (show _ = some (Value.int .i64 p.2.1) by go_simp)
        have q2 := (b2.cell (p := ⟨w.heap.size, 2, none⟩) (by simp)).trans (show _ = some (Value.int .i64 p.2.2) by go_simp)
        have lw : w.heap.size < w2.heap.size := cell_lt q0
        have x := hL2.led.sv i hi
        have fx := hL2.led.froz (3 + i)
        have lg := led_lt hL2
        have HP := Lib.hid (hL2.putSrv hi dn p 78)
        have HB2 := Lib.hid hb2
        unfold srvPtr at x
        simp only [hs] at x
        rw [← HG.out] at x fx lg HP
        unfold ptr at HP
        clear hL2 b2 hb2 hs
        go_wp2_with fail
        go_region
        all_goals go_wp2_with fail
        all_goals go_ret
        all_goals first
          | exact ⟨rfl, _, HP.out.1.drew, ((Next.of_below L HB2.out).trans HP.out.2).drew⟩
          | exact ⟨rfl, _, HP.out.1, ((Next.of_below L HB2.out).trans HP.out.2)⟩
      · have e0 : joinS st i d p = (st, passS st d (-1) p) := by unfold joinS; rw [if_pos hid]; simp only [Int.toNat_natCast, hs]; rw [if_neg hp]
        rw [e0]
        have HL := Lib.hid h
        have HB := Lib.hid b1
        generalize passS st d (-1) p = E at *
        have d1 : (E != 0) = true := by rw [bne_iff_ne]; exact hp
        obtain ⟨g, hg⟩ : ∃ g, g = L.g := ⟨_, rfl⟩
        rw [← hg] at C PA ⊢
        clear h h1 hs e0 b1 hg hp
        go_enter Try.func9, Try.ntmps9
        go_wp2_with fail
        refine C.out.mono ?_
        rintro e w1 ⟨rfl, rfl⟩
        go_wp2_with fail
        refine PA.out.mono ?_
        rintro e w2 ⟨rfl, b2⟩
        go_wp2_with fail
        go_ret
        exact Turns.same HL.out (bel_end HB.out b2)
  · have e0 : joinS st id d p = (st, 10) := by unfold joinS; rw [if_neg hid]
    rw [e0]
    have C := Lib.hid fun (a : Addr) (w2 : World) => sfind_out (w := w2) id hid a
    have HL := Lib.hid h
    have HB := Lib.hid b1
    obtain ⟨g, hg⟩ : ∃ g, g = L.g := ⟨_, rfl⟩
    rw [← hg]
    clear h h1 hid e0 b1 hg
    go_enter Try.func9, Try.ntmps9
    go_wp2_with fail
    refine (C.out _ _).mono ?_
    rintro e w1 ⟨rfl, rfl⟩
    go_wp2_with fail
    go_ret
    exact Turns.same HL.out HB.out
end
end Go.Proofs.Ytmcilmmnpolieaa
/- A ledger behind a domain's other row. Each theorem's premises are its conditions. -/
namespace Go.Proofs.Ytmcilmmnpolieaa
open Go.ChangeShapes Go.WideShapes Go.ChangeAt Go.RowKit

section
variable {w : World} {L : Lay}
/-- a domain owes what is in another row. -/
theorem LAt.setOwed3 {w3 : World} {s : LS} (h : LAt w L s) {i : Nat} (hi : i < s.nd) {v' : Value} {l' l : List Ow} (ho : Only w w3 fun k => k = L.db i ∨ (L.ov i).ownBlock = some k) (dc : ∀ o, o ≠ 3 → w3.cell? ⟨L.db i, o, none⟩ = w.cell? ⟨L.db i, o, none⟩) (df : ∀ o, w3.frozen? ⟨L.db i, o, none⟩ = w.frozen? ⟨L.db i, o, none⟩) (d3 : w3.cell? ⟨L.db i, 3, none⟩ = some v') (hv : OwnsO w3 v' l') (hb : ∀ k, v'.ownBlock = some k → (L.ov i).ownBlock = some k ∨ w.heap.size ≤ k) (hp : l'.Perm l) (hs : SortedO l') :
    ∃ L', LAt w3 L' { s with dom := upd s.dom i { s.dom i with owed := l } } ∧ Next w L w3 L' ∧ L'.dv = L.dv ∧ L'.db = L.db ∧ L'.ov = upd L.ov i v' ∧ L'.ol = upd L.ol i l' := by
  have hD := h.dom i hi
  have hr := hD.role
  have same : ∀ k r, L.role k = some r → r ≠ .dom i → r ≠ .owed i → Same w w3 k := fun k r hk h1 h2 =>
    ho.block k (role_lt h hk) (fun e => e.elim (role_ne hk hr h1) (fun e => role_ne hk (hD.orole _ e) h2 rfl))
  -- the new row's block bears its role
  obtain ⟨role', hrole'⟩ : ∃ role' : Nat → Option Role, role' = fun k => if v'.ownBlock = some k then some (.owed i) else L.role k := ⟨_, rfl⟩
  have keepR : ∀ k r, L.role k = some r → r ≠ .owed i → role' k = some r := fun k r hk h1 => by
    rw [hrole']
    simp only
    rw [if_neg (fun e => ?_)]
    · exact hk
    · rcases hb _ e with h2 | h2
      · exact role_ne hk (hD.orole _ h2) h1 rfl
      · have := role_lt h hk; omega
  have e : Ext w L w3 { L with role := role', ov := upd L.ov i v', ol := upd L.ol i l' } (fun r => r = .dom i ∨ r = .owed i) := fun k r hk hr' =>
    ⟨keepR k r hk (fun h1 => hr' (.inr h1)), same k r hk (fun h1 => hr' (.inl h1)) (fun h1 => hr' (.inr h1))⟩
  refine ⟨_, ⟨fun k hk => ?_, h.led.ext e (by simp) rfl rfl rfl fun _ _ => rfl, h.doms.ext e (by simp) rfl fun _ _ => rfl, h.wks.ext e (by simp) rfl fun _ _ => rfl, fun j hj => ?_, fun j hj => (h.mem j hj).ext e (by simp) rfl⟩, ⟨rfl, ?_, fun k hk => ?_⟩, rfl, rfl, rfl, rfl⟩
  · simp only [hrole'] at hk
    split at hk
    · rename_i h1
      exact (hv.lt k h1).2
    · have := h.lt k hk; have := ho.size; omega
  · by_cases hji : j = i
    · subst hji
      simp only [upd_self]
      refine ⟨keepR _ _ hr (by simp), fun o => ?_, ?_, ?_, ?_, ?_, fun k hk => ?_, ?_, ?_, ?_⟩
      · rw [df]; exact hD.froz o
      · rw [dc _ (by omega)]; exact hD.hard
      · rw [dc _ (by omega)]; exact hD.cap
      · rw [dc _ (by omega)]; exact hD.wk
      · simp only [upd_self]; exact d3
      · simp only [upd_self] at hk; simp only [hrole', if_pos hk]
      · simp only [upd_self]; exact hv
      · simp only [upd_self]; exact hp
      · simp only [upd_self]; exact hs
    · simp only [upd_ne _ _ _ hji]
      exact (h.dom j hj).ext e (by simpa using hji) (by simpa using hji) rfl (upd_ne _ _ _ hji) (upd_ne _ _ _ hji)
  · have hmi : L.role (L.db i) ≠ none := by rw [hr]; exact fun e => by cases e
    exact ⟨ho.os, ho.tape, ho.output, ho.size, fun k hk hs => ho.block k hk (fun e => hs (e.elim (fun e => by rw [e]; exact hmi) (fun e => by rw [hD.orole _ e]; exact fun e => by cases e)))⟩
  · simp only [hrole'] at hk
    split at hk
    · rename_i h1
      rcases hb _ h1 with h2 | h2
      · exact .inl (by rw [hD.orole _ h2]; exact fun e => by cases e)
      · exact .inr h2
    · exact .inl hk
end
end Go.Proofs.Ytmcilmmnpolieaa
/- What ledger.Domain and ledger.New answer, and what they turn. Each theorem's premises are its conditions. -/
namespace Go.Proofs.Ytmcilmmnpolieaa
open Go.ChangeShapes Go.WideShapes Go.ChangeAt Go.RowKit Go.Shelf Go.Deep

theorem Try.infoPtr : (Try.prog.info? 80).map (fun i => (i.zero, i.size, i.bytes)) = some (some (.pointer none), 1, 8) := by kernel_rfl
theorem news_ptr (b k : Nat) (U : World) (t : TypeId) (hU : U.heap.size = k) : ∀ j u, [ptr b][j]? = some u → (U.alloc (.cells #[.pointer (some ⟨b, 0, none⟩)] t)).cell? ((Addr.mk k 0 none).add j) = some u := by
  subst hU
  intro j u hj
  have e : (Addr.mk U.heap.size 0 none).add j = ⟨U.heap.size, j, none⟩ := by unfold Addr.add; split <;> simp_all
  rw [e, cell_new]
  simpa [ptr] using hj
theorem one_ptr (b : Nat) : ∀ u ∈ [ptr b], u.oneCell' = true := by
  intro u hu
  rw [List.mem_singleton] at hu
  rw [hu]; rfl
section
variable {w : World} {L : Lay} {st : LS} {n : Nat}
/-- a ledger with one more domain. -/
theorem LAt.addDom {w' : World} (h : LAt w L st) {B : Nat} {dv' : Value} (x : Dom) (hx : x.owed = []) (ho : Only w w' fun k => k = L.g ∨ L.dv.ownBlock = some k)
    (gf : ∀ o, w'.frozen? ⟨L.g, o, none⟩ = w.frozen? ⟨L.g, o, none⟩) (gc : ∀ o, o ≠ 1 → w'.cell? ⟨L.g, o, none⟩ = w.cell? ⟨L.g, o, none⟩) (g1 : w'.cell? ⟨L.g, 1, none⟩ = some dv')
    (hv : w'.ownsRow 0 80 1 dv' (st.nd + 1) (((List.range st.nd).map fun i => ptr (L.db i)) ++ [ptr B])) (hb : ∀ k, dv'.ownBlock = some k → k ≠ B ∧ (L.dv.ownBlock = some k ∨ w.heap.size ≤ k))
    (hB : w.heap.size ≤ B) (hB2 : B < w'.heap.size) (bf : ∀ o, w'.frozen? ⟨B, o, none⟩ = false) (b0 : w'.cell? ⟨B, 0, none⟩ = some (.bool x.hard)) (b1 : w'.cell? ⟨B, 1, none⟩ = some (.int .i64 x.cap)) (b2 : w'.cell? ⟨B, 2, none⟩ = some (.int .i64 x.wk)) (b3 : w'.cell? ⟨B, 3, none⟩ = some (.slice none 0 0)) :
    ∃ L', LAt w' L' { st with nd := st.nd + 1, dom := upd st.dom st.nd x } ∧ Next w L w' L' := by
  have hrg := h.led.role
  obtain ⟨role', hrole'⟩ : ∃ role' : Nat → Option Role, role' = fun k => if dv'.ownBlock = some k then some .doms else if k = B then some (.dom st.nd) else L.role k := ⟨_, rfl⟩
  have keepR : ∀ k r, L.role k = some r → r ≠ .doms → role' k = some r := fun k r hk h1 => by
    have hlt := role_lt h hk
    rw [hrole']
    simp only
    rw [if_neg (fun e => ?_), if_neg (by omega)]
    · exact hk
    · rcases (hb _ e).2 with h2 | h2
      · exact role_ne hk (h.doms.role _ h2) h1 rfl
      · omega
  have e : Ext w L w' { L with role := role', dv := dv', db := upd L.db st.nd B, ov := upd L.ov st.nd (.slice none 0 0), ol := upd L.ol st.nd [] } (fun r => r = .led ∨ r = .doms) := fun k r hk hr =>
    ⟨keepR k r hk (fun h1 => hr (.inr h1)), ho.block k (role_lt h hk) (fun e => e.elim (role_ne hk hrg (fun h1 => hr (.inl h1))) (fun e => role_ne hk (h.doms.role _ e) (fun h1 => hr (.inr h1)) rfl))⟩
  refine ⟨{ L with role := role', dv := dv', db := upd L.db st.nd B, ov := upd L.ov st.nd (.slice none 0 0), ol := upd L.ol st.nd [] }, ⟨fun k hk => ?_, ⟨keepR _ _ hrg (by simp), fun o => (gf o).trans (h.led.froz o), (gc _ (by omega)).trans h.led.now, g1, (gc _ (by omega)).trans h.led.wv, fun i hi => (gc _ (by omega)).trans (h.led.sv i hi)⟩, ⟨fun k hk => by simp only [hrole', if_pos hk], ?_⟩, h.wks.ext e (by simp) rfl fun _ _ => rfl, fun j hj => ?_, fun j hj => (h.mem j hj).ext e (by simp) rfl⟩, ⟨rfl, ?_, fun k hk => ?_⟩⟩
  · simp only [hrole'] at hk
    split at hk
    · rename_i h1
      exact (hv.lt k h1).2
    · split at hk
      · omega
      · have := h.lt k hk; have := ho.size; omega
  · have e9 : (List.range (st.nd + 1)).map (fun i => ptr (upd L.db st.nd B i)) = ((List.range st.nd).map fun i => ptr (L.db i)) ++ [ptr B] := by
      rw [List.range_succ, List.map_append]
      congr 1
      · exact List.map_congr_left fun i hi => by rw [upd_ne _ _ _ (by have := List.mem_range.1 hi; omega)]
      · simp only [List.map_cons, List.map_nil, upd_self]
    simp only [e9]
    exact hv
  · by_cases hji : j = st.nd
    · subst hji
      simp only [upd_self]
      refine ⟨?_, fun o => ?_, ?_, ?_, ?_, ?_, fun k hk => ?_, ?_, ?_, ?_⟩
      · simp only [upd_self, hrole']
        rw [if_neg (fun e => (hb _ e).1 rfl)]
        simp
      · simp only [upd_self]; exact bf o
      · simp only [upd_self]; exact b0
      · simp only [upd_self]; exact b1
      · simp only [upd_self]; exact b2
      · simp only [upd_self]; exact b3
      · simp only [upd_self] at hk; cases hk
      · simp only [upd_self]; exact ⟨rfl, .inl ⟨rfl, rfl⟩⟩
      · simp only [upd_self]; rw [hx]
      · simp only [upd_self]; exact List.Pairwise.nil
    · simp only [upd_ne _ _ _ hji]
      exact (h.dom j (by simp only at hj; omega)).ext e (by simp) (by simp) (upd_ne _ _ _ hji) (upd_ne _ _ _ hji) (upd_ne _ _ _ hji)
  · exact ⟨ho.os, ho.tape, ho.output, ho.size, fun k hk hs => ho.block k hk (fun e => hs (e.elim (fun e => by rw [e, hrg]; exact fun e => by cases e) (fun e => by rw [h.doms.role _ e]; exact fun e => by cases e)))⟩
  · simp only [hrole'] at hk
    split at hk
    · rename_i h1
      rcases (hb _ h1).2 with h2 | h2
      · exact .inl (by rw [h.doms.role _ h2]; exact fun e => by cases e)
      · exact .inr h2
    · split at hk
      · exact .inr (by omega)
      · exact .inl hk
set_option maxHeartbeats 1000000 in
theorem domain_bad (h : LAt w L st) (hard : Bool) (cap : Int) (hb : cap < 0 ∨ 1048576 < cap) : Calls Try.prog 15 #[.pointer (some ⟨L.g, 0, none⟩), .bool hard, .int .i64 cap] w fun e w' => Turns w L st e (.tuple #[.int .i64 0, .int .i64 1]) w' := by
  have HL := Lib.hid h
  generalize L.g = g at *
  clear h
  by_cases h1 : cap < 0
  · have d1 : decide (cap < 0) = true := decide_eq_true h1
    clear hb h1
    go_enter Try.func15, Try.ntmps15
    go_wp2_with fail
    go_ret2
    exact Turns.same HL.out (Below.refl _ _)
  · have d1 : decide (cap < 0) = false := decide_eq_false h1
    have d2 : decide (1048576 < cap) = true := decide_eq_true (by omega)
    clear hb h1
    go_enter Try.func15, Try.ntmps15
    go_wp2_with fail
    go_ret2
    exact Turns.same HL.out (Below.refl _ _)
set_option maxHeartbeats 1000000 in
theorem domain_full (h : LAt w L st) (ho : LOk st n) (hard : Bool) (cap : Int) (hb : ¬ (cap < 0 ∨ 1048576 < cap)) (hf : st.nd = 8) : Calls Try.prog 15 #[.pointer (some ⟨L.g, 0, none⟩), .bool hard, .int .i64 cap] w fun e w' => Turns w L st e (.tuple #[.int .i64 0, .int .i64 13]) w' := by
  have HL := Lib.hid h
  obtain ⟨bd, dcap, edv, hbd, hdc, hrb, _⟩ := doms_shape h.doms ho.nd.1
  have xdv := h.led.dv
  rw [edv, hf] at xdv
  have lg := led_lt h
  have d1 : decide (cap < 0) = false := decide_eq_false (by omega)
  have d2 : decide (1048576 < cap) = false := decide_eq_false (by omega)
  generalize L.g = g at *
  clear h ho hb edv hf
  go_enter Try.func15, Try.ntmps15
  go_wp2_with fail
  go_ret2
  exact Turns.same HL.out (Below.refl _ _)
set_option maxHeartbeats 2000000 in
theorem domain_add (h : LAt w L st) (ho : LOk st n) (hard : Bool) (cap : Int) (hb : ¬ (cap < 0 ∨ 1048576 < cap)) (hf : ¬ st.nd = 8) : Calls Try.prog 15 #[.pointer (some ⟨L.g, 0, none⟩), .bool hard, .int .i64 cap] w fun e w' => Turns w L { st with nd := st.nd + 1, dom := upd st.dom st.nd ⟨hard, cap, 0, []⟩ } e (.tuple #[.int .i64 st.nd, .int .i64 0]) w' := by
  have HL := Lib.hid h
  obtain ⟨bd, dcap, edv, hbd, hdc, hrb, _⟩ := doms_shape h.doms ho.nd.1
  have xdv := h.led.dv
  have hown := h.doms.own
  rw [edv] at xdv hown
  have lg := led_lt h
  have fx := h.led.froz 1
  have d1 : decide (cap < 0) = false := decide_eq_false (by omega)
  have d2 : decide (1048576 < cap) = false := decide_eq_false (by omega)
  have hn8 : st.nd < 8 := by have := ho.nd.2; omega
  have d3 : ((st.nd : Int) == 8) = false := by rw [beq_eq_false_iff_ne]; omega
  have hbg : bd ≠ L.g := role_ne hrb h.led.role (by simp)
  obtain ⟨i0, hinf, hz0, hz1, hz2⟩ := info_parts Try.infoPtr
  have HE := Lib.hid edv
  have HOW := Lib.hid hown
  obtain ⟨g, hg⟩ : ∃ g, g = L.g := ⟨_, rfl⟩
  rw [← hg] at xdv lg fx hbg ⊢
  have HG := Lib.hid hg
  have hnB : ∀ o, (w.alloc (.cells #[.bool hard, .int .i64 cap, .int .i64 0, .slice none 0 0] 82)).cell? ⟨w.heap.size, o, none⟩ = (#[.bool hard, .int .i64 cap, .int .i64 0, .slice none 0 0] : Array Value)[o]? := fun o => cell_new _ _ _ o
  have HNB := Lib.hid hnB
  clear h ho hb edv hown hf hg hrb hnB
  go_enter Try.func15, Try.ntmps15
  go_wp2_with (at_builtin; (refine wpList_append_lies _ rfl _ _ 71 rfl 0 80 i0 (.pointer none) 1 8 Try.underlying71 hinf hz0 hz1 hz2 rfl (by decide) (.slice (some ⟨bd, 0, none⟩) st.nd dcap) st.nd _ rfl ((HOW.out.alloc _).alloc _) ⟨w.heap.size + 1, 0, none⟩ 1 1 [ptr w.heap.size] rfl rfl (news_ptr w.heap.size (w.heap.size + 1) _ _ (by simp)) (one_ptr _) (by omega) (by unfold maxLen; omega) (by omega) (Nat.zero_le _) (w.heap.size + 1 + 1) (by simp) ?_); intro g3 c3 w3 hown3 hgrow hat _; have s0 := hgrow.cell (cell_alloc (o := .cells #[.pointer (some ⟨w.heap.size, 0, none⟩)] 80) (cell_alloc (o := .cells #[.bool hard, .int .i64 cap, .int .i64 0, .slice none 0 0] 82) xdv)) (fun e => hbg (Option.some.inj e).symm); have sf := (World.frozen?_of_block (a := ⟨g, 1, none⟩) (hgrow.block g (by simp; omega) (fun e => hbg (Option.some.inj e).symm))).trans ((World.frozen?_alloc_old _ _ _ (by simp; omega)).trans ((World.frozen?_alloc_old _ _ _ (by simp; omega)).trans fx)); have sl := cell_lt s0; have HW := Lib.hid hown3; have HGR := Lib.hid hgrow; have HAT := Lib.hid hat; clear hown3 hgrow hat)
  go_ret2
  have hgrow : World.grownBy ((w.alloc (.cells #[.bool hard, .int .i64 cap, .int .i64 0, .slice none 0 0] 82)).alloc (.cells #[.pointer (some ⟨w.heap.size, 0, none⟩)] 80)) w3 (some bd) := HGR.out
  have hg3 : g3 = bd ∨ g3 = w.heap.size + 1 + 1 := by
    rcases HAT.out with h1 | h1
    · exact .inl (Option.some.inj h1).symm
    · exact .inr h1
  have hgw : g ≠ w.heap.size := by omega
  have same3 : ∀ k, k < w.heap.size → k ≠ bd → Same w w3 k := fun k hk hkb =>
    (hgrow.block k (by simp; omega) (fun e => hkb (Option.some.inj e))).trans ((Below.heap_alloc _ _ _ (by simp; omega)).trans (Below.heap_alloc _ _ _ hk))
  have newB : ∀ o, w3.cell? ⟨w.heap.size, o, none⟩ = (#[.bool hard, .int .i64 cap, .int .i64 0, .slice none 0 0] : Array Value)[o]? := fun o =>
    (World.cell?_of_block (a := ⟨w.heap.size, o, none⟩) (hgrow.block w.heap.size (by simp; omega) (fun e => by have := Option.some.inj e; omega))).trans ((World.cell?_of_block (a := ⟨w.heap.size, o, none⟩) (Below.heap_alloc _ _ _ (by simp))).trans (HNB.out o))
  have newF : ∀ o, w3.frozen? ⟨w.heap.size, o, none⟩ = false := fun o =>
    (World.frozen?_of_block (a := ⟨w.heap.size, o, none⟩) (hgrow.block w.heap.size (by simp; omega) (fun e => by have := Option.some.inj e; omega))).trans ((World.frozen?_of_block (a := ⟨w.heap.size, o, none⟩) (Below.heap_alloc _ _ _ (by simp))).trans (froz_new _ _ _ _))
  have oth : ∀ k, k ≠ g → Same w3 (w3.setCell ⟨g, 1, none⟩ (.slice (some ⟨g3, 0, none⟩) (st.nd + 1) c3)) k := fun k hk => Below.heap_setCell _ _ _ _ hk
  have hsz3 : w.heap.size + 1 + 1 ≤ w3.heap.size := by have := hgrow.size; simpa using this
  have o1 : Only w w3 fun k => k = L.g ∨ L.dv.ownBlock = some k := (Only.of_below (bel_alloc (bel_alloc (Below.refl w.heap.size w)))).grown hgrow fun k e => .inl (.inr (by rw [HE.out]; exact e))
  have o2 := o1.set (a := ⟨g, 1, none⟩) (.inl (.inl HG.out)) (.slice (some ⟨g3, 0, none⟩) (st.nd + 1) c3)
  have hg3g : g3 ≠ g := by rcases hg3 with h | h <;> omega
  have hbk : ∀ k, (Value.slice (some ⟨g3, 0, none⟩) (st.nd + 1) c3).ownBlock = some k → k ≠ w.heap.size ∧ (L.dv.ownBlock = some k ∨ w.heap.size ≤ k) := fun k e => by
    have e' : g3 = k := Option.some.inj e
    subst e'
    rcases hg3 with h | h
    · exact ⟨by omega, .inl (by rw [HE.out, h]; rfl)⟩
    · exact ⟨by omega, .inr (by omega)⟩
  obtain ⟨L', hL', hN'⟩ := HL.out.addDom (B := w.heap.size) ⟨hard, cap, 0, []⟩ rfl o2
    (fun o => by rw [← HG.out, World.frozen?_setCell]; exact (same3 g lg (Ne.symm hbg)).froz o)
    (fun o ho => by rw [← HG.out, set_other ho]; exact (same3 g lg (Ne.symm hbg)).cell o)
    (by rw [← HG.out]; exact World.cell?_setCell_same _ _ _ s0)
    (own_same HW.out fun b e => oth _ (by cases e; exact hg3g))
    hbk
    (Nat.le_refl _) (by rw [World.size_setCell]; omega)
    (fun o => ((oth _ (Ne.symm hgw)).froz o).trans (newF o))
    (((oth _ (Ne.symm hgw)).cell 0).trans ((newB 0).trans rfl)) (((oth _ (Ne.symm hgw)).cell 1).trans ((newB 1).trans rfl)) (((oth _ (Ne.symm hgw)).cell 2).trans ((newB 2).trans rfl)) (((oth _ (Ne.symm hgw)).cell 3).trans ((newB 3).trans rfl))
  exact ⟨by first | rfl | (refine ret2 ?_ rfl; first | rfl | (congr 1; omega) | simp), L', hL', hN'⟩
theorem domain_any (h : LAt w L st) (ho : LOk st n) (hard : Bool) (cap : Int) : Calls Try.prog 15 #[.pointer (some ⟨L.g, 0, none⟩), .bool hard, .int .i64 cap] w fun e w' => Turns w L (domainS st hard cap).1 e (.tuple #[.int .i64 (domainS st hard cap).2.1, .int .i64 (domainS st hard cap).2.2]) w' := by
  unfold domainS
  by_cases hb : cap < 0 ∨ 1048576 < cap
  · rw [if_pos hb]; exact domain_bad h hard cap hb
  · rw [if_neg hb]
    by_cases hf : st.nd = 8
    · rw [if_pos hf]; exact domain_full h ho hard cap hb hf
    · rw [if_neg hf]; exact domain_add h ho hard cap hb hf
end
end Go.Proofs.Ytmcilmmnpolieaa
/- What ledger.Worker answers, and what it turns. Each theorem's premises are its conditions. -/
namespace Go.Proofs.Ytmcilmmnpolieaa
open Go.ChangeShapes Go.WideShapes Go.ChangeAt Go.RowKit Go.Shelf Go.Deep

section
variable {w : World} {L : Lay} {st : LS} {n : Nat}
def storedR (w : World) (m : Nat) (x : Dom) (k : Int) : World := ((w.setCell ⟨m, 0, none⟩ (.bool x.hard)).setCell ⟨m, 1, none⟩ (.int .i64 x.cap)).setCell ⟨m, 2, none⟩ (.int .i64 k)
theorem DomPart.wkSet {w' : World} {i : Nat} {x : Dom} {k : Int} (h : DomPart w L i x) (f : ∀ o, w'.frozen? ⟨L.db i, o, none⟩ = false) (c0 : w'.cell? ⟨L.db i, 0, none⟩ = some (.bool x.hard)) (c1 : w'.cell? ⟨L.db i, 1, none⟩ = some (.int .i64 x.cap)) (c2 : w'.cell? ⟨L.db i, 2, none⟩ = some (.int .i64 k)) (c3 : w'.cell? ⟨L.db i, 3, none⟩ = some (L.ov i))
    (ho : ∀ b, L.role b = some (.owed i) → Same w w' b) : DomPart w' L i { x with wk := k } :=
  ⟨h.role, f, c0, c1, c2, c3, h.orole, own_same h.own fun b hb => ho b (h.orole b hb), h.perm, h.sorted⟩
theorem LAt.setRule (h : LAt w L st) {i : Nat} (hi : i < st.nd) (k : Int) : LAt (storedR w (L.db i) (st.dom i) k) L { st with dom := upd st.dom i { st.dom i with wk := k } } ∧ Next w L (storedR w (L.db i) (st.dom i) k) L := by
  have hD := h.dom i hi
  have hr := hD.role
  have hother : ∀ b, b ≠ L.db i → Same w (storedR w (L.db i) (st.dom i) k) b := fun b hb => by
    unfold storedR Same
    rw [Below.heap_setCell _ _ _ _ hb, Below.heap_setCell _ _ _ _ hb, Below.heap_setCell _ _ _ _ hb]
  have hsz : (storedR w (L.db i) (st.dom i) k).heap.size = w.heap.size := by unfold storedR; simp
  have e : Ext w L (storedR w (L.db i) (st.dom i) k) L (· = .dom i) := fun b r hb hr' => ⟨hb, hother b (role_ne hb hr hr')⟩
  refine ⟨⟨fun b hb => by rw [hsz]; exact h.lt b hb, h.led.ext e (by simp) rfl rfl rfl fun _ _ => rfl, h.doms.ext e (by simp) rfl fun _ _ => rfl, h.wks.ext e (by simp) rfl fun _ _ => rfl,
    fun j hj => ?_, fun j hj => (h.mem j hj).ext e (by simp) rfl⟩, ⟨rfl, ?_, fun _ h => .inl h⟩⟩
  · by_cases hji : j = i
    · subst hji
      simp only [upd_self]
      refine hD.wkSet (fun o => ?_) ?_ ?_ ?_ ?_ fun b hb => hother b (role_ne hb hr (by simp))
      · unfold storedR; simp only [World.frozen?_setCell]; exact hD.froz o
      · unfold storedR; rw [set_other (by omega), set_other (by omega)]; exact World.cell?_setCell_same _ _ _ hD.hard
      · unfold storedR; rw [set_other (by omega)]; exact World.cell?_setCell_same _ _ _ ((set_other (by omega)).trans hD.cap)
      · unfold storedR; exact World.cell?_setCell_same _ _ _ ((set_other (by omega)).trans ((set_other (by omega)).trans hD.wk))
      · unfold storedR; rw [set_other (by omega), set_other (by omega), set_other (by omega)]; exact hD.ov
    · simp only [upd_ne _ _ _ hji]
      exact (h.dom j hj).ext e (by simpa using hji) (by simp) rfl rfl rfl
  · have hmi : L.role (L.db i) ≠ none := by rw [hr]; exact fun e => by cases e
    exact (((Only.refl w fun k => L.role k ≠ none).set (.inl hmi) _).set (.inl hmi) _).set (.inl hmi) _
theorem LAt.setWk (h : LAt w L st) {i : Nat} (hi : i < st.nd) (k : Int) : LAt (w.setCell ⟨L.db i, 2, none⟩ (.int .i64 k)) L { st with dom := upd st.dom i { st.dom i with wk := k } } := by
  have hD := h.dom i hi
  have hr := hD.role
  have e := ext_set (w := w) (o := 2) (v := .int .i64 k) hr
  refine ⟨fun b hb => by rw [World.size_setCell]; exact h.lt b hb, h.led.ext e (by simp) rfl rfl rfl fun _ _ => rfl, h.doms.ext e (by simp) rfl fun _ _ => rfl, h.wks.ext e (by simp) rfl fun _ _ => rfl,
    fun j hj => ?_, fun j hj => (h.mem j hj).ext e (by simp) rfl⟩
  by_cases hji : j = i
  · subst hji
    simp only [upd_self]
    refine hD.wkSet (fun o => ?_) ?_ ?_ ?_ ?_ fun b hb => Below.heap_setCell _ _ _ _ (role_ne hb hr (by simp))
    · rw [World.frozen?_setCell]; exact hD.froz o
    · rw [set_other (by omega)]; exact hD.hard
    · rw [set_other (by omega)]; exact hD.cap
    · exact World.cell?_setCell_same _ _ _ hD.wk
    · rw [set_other (by omega)]; exact hD.ov
  · simp only [upd_ne _ _ _ hji]
    exact (h.dom j hj).ext e (by simpa using hji) (by simp) rfl rfl rfl
theorem LAt.setWkr (h : LAt w L st) {i : Nat} (hi : i < st.nw) (d : Nat) : LAt (w.setCell ⟨L.wb, i, none⟩ (.int .i64 (d : Nat))) L { st with wk := upd st.wk i d } := by
  have hr := h.wks.role
  have e := ext_set (w := w) (o := i) (v := .int .i64 (d : Nat)) hr
  refine ⟨fun b hb => by rw [World.size_setCell]; exact h.lt b hb, h.led.ext e (by simp) rfl rfl rfl fun _ _ => rfl, h.doms.ext e (by simp) rfl fun _ _ => rfl, ⟨hr, fun o => by rw [World.frozen?_setCell]; exact h.wks.froz o, fun j hj => ?_⟩,
    fun j hj => (h.dom j hj).ext e (by simp) (by simp) rfl rfl rfl, fun j hj => (h.mem j hj).ext e (by simp) rfl⟩
  by_cases hji : j = i
  · subst hji
    simp only [upd_self]
    exact World.cell?_setCell_same _ _ _ (h.wks.cell j hj)
  · simp only [upd_ne _ _ _ hji]
    rw [set_other hji]
    exact h.wks.cell j hj
theorem wks_lt (h : LAt w L st) : L.wb < w.heap.size := role_lt h h.wks.role
/-- the cells that Worker reads, in whatever later world. -/
structure WFacts (w : World) (L : Lay) (st : LS) (bd cap : Nat) : Prop where
  g : L.g < w.heap.size
  dv : w.cell? ⟨L.g, 1, none⟩ = some (.slice (some ⟨bd, 0, none⟩) st.nd cap)
  wv : w.cell? ⟨L.g, 2, none⟩ = some (.slice (some ⟨L.wb, 0, none⟩) st.nw st.nw)
  lbd : bd < w.heap.size
  lwb : L.wb < w.heap.size
  wk : ∀ i, i < st.nw → w.cell? ⟨L.wb, i, none⟩ = some (.int .i64 (st.wk i : Nat))
  db : ∀ i, i < st.nd → w.cell? ⟨bd, i, none⟩ = some (ptr (L.db i))
theorem wfacts (h : LAt w L st) (h0 : 0 < st.nd) : ∃ bd cap, L.dv = .slice (some ⟨bd, 0, none⟩) st.nd cap ∧ st.nd ≤ cap := by
  obtain ⟨b, cap, e, _, hc, _⟩ := doms_shape h.doms h0
  exact ⟨b, cap, e, hc⟩
theorem wfacts' (h : LAt w L st) (h0 : 0 < st.nd) {bd cap : Nat} (e : L.dv = .slice (some ⟨bd, 0, none⟩) st.nd cap) : WFacts w L st bd cap := by
  obtain ⟨b, cap', e', hb, _, _, hcell⟩ := doms_shape h.doms h0
  rw [e] at e'
  cases e'
  exact ⟨led_lt h, by rw [← e]; exact h.led.dv, h.led.wv, hb, wks_lt h, h.wks.cell, hcell⟩
theorem worker_out (h : LAt w L st) (wi d : Int) (hw : ¬ (0 ≤ wi ∧ wi < st.nw)) : Calls Try.prog 14 #[.pointer (some ⟨L.g, 0, none⟩), .int .i64 wi, .int .i64 d] w fun e w' => Turns w L st e (.int .i64 10) w' := by
  have x := h.led.wv
  have lg := led_lt h
  have HL := Lib.hid h
  generalize L.wb = wb at *
  obtain ⟨g, hg⟩ : ∃ g, g = L.g := ⟨_, rfl⟩
  rw [← hg] at x lg ⊢
  generalize hnw : st.nw = nw at *
  clear h hg hnw
  by_cases h1 : wi < 0
  · have d1 : decide (wi < 0) = true := decide_eq_true h1
    clear hw h1
    go_enter Try.func14, Try.ntmps14
    go_wp2_with fail
    go_ret
    exact Turns.same HL.out (Below.refl _ _)
  · have d1 : decide (wi < 0) = false := decide_eq_false h1
    have d2 : decide ((nw : Int) ≤ wi) = true := decide_eq_true (by omega)
    clear hw h1
    go_enter Try.func14, Try.ntmps14
    go_wp2_with fail
    go_ret
    exact Turns.same HL.out (Below.refl _ _)
theorem worker_nod (h : LAt w L st) (h0 : 0 < st.nd) (j : Nat) (hj : j < st.nw) (d : Int) (hd : ¬ (0 ≤ d ∧ d < st.nd)) : Calls Try.prog 14 #[.pointer (some ⟨L.g, 0, none⟩), .int .i64 j, .int .i64 d] w fun e w' => Turns w L st e (.int .i64 14) w' := by
  have x := h.led.wv
  have xw := h.wks.cell j hj
  have lg := led_lt h
  have lwb := wks_lt h
  have C := Lib.hid (dfind_out h h0 d hd)
  have HL := Lib.hid h
  have d1 : decide ((j : Int) < 0) = false := decide_eq_false (by omega)
  have d2 : decide ((st.nw : Int) ≤ (j : Int)) = false := decide_eq_false (by omega)
  have hz : (j : Int) < (st.nw : Int) := by omega
  generalize L.wb = wb at *
  obtain ⟨g, hg⟩ : ∃ g, g = L.g := ⟨_, rfl⟩
  rw [← hg] at x lg C ⊢
  generalize hnw : st.nw = nw at *
  clear h hg hnw hd
  go_enter Try.func14, Try.ntmps14
  go_wp2_with fail
  refine C.out.mono ?_
  rintro e w1 ⟨rfl, rfl⟩
  go_wp2_with fail
  go_ret
  exact Turns.same HL.out (Below.refl _ _)
theorem worker_there (h : LAt w L st) (j : Nat) (hj : j < st.nw) (hd : st.wk j < st.nd) : Calls Try.prog 14 #[.pointer (some ⟨L.g, 0, none⟩), .int .i64 j, .int .i64 (st.wk j : Nat)] w fun e w' => Turns w L st e (.int .i64 15) w' := by
  have x := h.led.wv
  have xw := h.wks.cell j hj
  have lg := led_lt h
  have lwb := wks_lt h
  have C := Lib.hid (dfind_in h _ hd)
  have HL := Lib.hid h
  have d1 : decide ((j : Int) < 0) = false := decide_eq_false (by omega)
  have d2 : decide ((st.nw : Int) ≤ (j : Int)) = false := decide_eq_false (by omega)
  have hz : (j : Int) < (st.nw : Int) := by omega
  unfold ptr at C
  generalize L.wb = wb at *
  obtain ⟨g, hg⟩ : ∃ g, g = L.g := ⟨_, rfl⟩
  rw [← hg] at x lg C ⊢
  generalize hnw : st.nw = nw at *
  generalize st.wk j = dd at *
  clear h hg hnw hd
  go_enter Try.func14, Try.ntmps14
  go_wp2_with fail
  refine C.out.mono ?_
  rintro e w1 ⟨rfl, rfl⟩
  go_wp2_with fail
  go_ret
  exact Turns.same HL.out (Below.refl _ _)
set_option maxHeartbeats 400000 in
theorem worker_state (h : LAt w L st) (ho : LOk st n) (hn : n ≤ 900) (j : Nat) (hj : j < st.nw) (d : Nat) (hd : d < st.nd) (hne : st.wk j ≠ d) (K : Int) (hK : (st.dom (st.wk j)).wk = K + 1) (h16 : K = 0 ∧ 0 < (allOf st (st.wk j) (-1)).length) :
    Calls Try.prog 14 #[.pointer (some ⟨L.g, 0, none⟩), .int .i64 j, .int .i64 (d : Nat)] w fun e w' => Turns w L st e (.int .i64 16) w' := by
  have hf := ho.wk j hj
  obtain ⟨bd, cap, edv, hcap⟩ := wfacts h ho.nd.1
  obtain ⟨lg, xd, xw, lbd, lwb, xk, xb⟩ := wfacts' h ho.nd.1 edv
  have y := xk j hj
  have C := Lib.hid (dfind_in h d hd)
  have hlen := ol_len h ho hf
  have hml := members_le st (st.wk j) (-1) 64
  have PA := Lib.hid (SeqG.params_any h (st.wk j) hf (by omega) (-1))
  have AP := all_perm h hf (-1)
  have TA := Lib.hid (test_perm (st.dom (st.wk j)).hard (st.dom (st.wk j)).cap K AP)
  have hq : (members st (st.wk j) (-1) 64 ++ (L.ol (st.wk j)).map (·.p)).length ≤ 964 := by rw [List.length_append, List.length_map]; omega
  have hal := AP.length_eq
  have HW := Lib.hid (fun W (k : Below w.heap.size w W) => wfacts' (h.below k) ho.nd.1 edv)
  have HD := Lib.hid (fun W (k : Below w.heap.size w W) i (hi : i < st.nd) => (h.below k).dom i hi)
  have hk := ho.wk_pos hj
  have hk2 := (ho.wk_range hf).2
  have hkd := ho.wk_range hd
  have lf := role_lt h (h.dom _ hf).role
  have ld := role_lt h (h.dom _ hd).role
  have d1 : decide ((j : Int) < 0) = false := decide_eq_false (by omega)
  have d2 : decide ((st.nw : Int) ≤ (j : Int)) = false := decide_eq_false (by omega)
  have hz : (j : Int) < (st.nw : Int) := by omega
  have hfz : ((st.wk j : Nat) : Int) < (st.nd : Int) := by omega
  have d3 : (((st.wk j : Nat) : Int) == ((d : Nat) : Int)) = false := by rw [beq_eq_false_iff_ne]; omega
  rw [← hal] at h16
  have e0 : (K == 0) = true := by rw [beq_iff_eq]; exact h16.1
  have hqp : 0 < (members st (st.wk j) (-1) 64 ++ (L.ol (st.wk j)).map (·.p)).length := h16.2
  have e1 : decide (0 < (((members st (st.wk j) (-1) 64 ++ (L.ol (st.wk j)).map (·.p)).length : Nat) : Int)) = true := decide_eq_true (by omega)
  have e2 : decide (0 < (members st (st.wk j) (-1) 64 ++ (L.ol (st.wk j)).map (·.p)).length) = true := decide_eq_true hqp
  clear h16
  have HL := Lib.hid h
  have HJ := Lib.hid hj
  have HF := Lib.hid hf
  have HDN := Lib.hid hd
  have HNE := Lib.hid hne
  generalize members st (st.wk j) (-1) 64 ++ (L.ol (st.wk j)).map (·.p) = qs at *
  generalize testNum (st.dom (st.wk j)).hard (st.dom (st.wk j)).cap K (allOf st (st.wk j) (-1)) = T at *
  unfold ptr at C
  obtain ⟨g, hg⟩ : ∃ g, g = L.g := ⟨_, rfl⟩
  rw [← hg] at xd xw lg C PA ⊢
  have HG := Lib.hid hg
  obtain ⟨md, hmd⟩ : ∃ m, m = L.db d := ⟨_, rfl⟩
  obtain ⟨mf, hmf⟩ : ∃ m, m = L.db (st.wk j) := ⟨_, rfl⟩
  rw [← hmd] at C ld
  rw [← hmf] at lf
  have HMD := Lib.hid hmd
  have HMF := Lib.hid hmf
  clear h ho hn hj hd hf hne hml hlen AP edv hg hmd hmf xk xb hal
  go_enter Try.func14, Try.ntmps14
  go_wp2_with fail
  refine C.out.mono ?_
  rintro e w1 ⟨rfl, hw1⟩
  obtain rfl := hw1.symm
  go_wp2_with fail
  refine PA.out.mono ?_
  rintro e w2 ⟨v2, rfl, o2, b2⟩
  obtain ⟨a2, n2, c2, rfl⟩ := SeqG.own_slice o2
  have hn2 : n2 = qs.length := by
    obtain ⟨_, ⟨e, e0⟩ | ⟨_, _, _, e, _⟩⟩ := o2 <;> cases e
    · omega
    · rfl
  subst hn2
  have TT := Lib.hid (fun W (k : Below w2.heap.size w2 W) => test_any (st.dom (st.wk j)).hard (st.dom (st.wk j)).cap K _ qs W ((owns_row o2).1.below k) (by omega))
  rw [TA.out] at TT
  have HB2 := Lib.hid b2
  have F2 := HW.out _ b2
  obtain ⟨lg2, xd2, xw2, lbd2, lwb2, xk2, xb2⟩ := F2
  have D2 := HD.out _ b2 _ HF.out
  have z := xb2 _ HF.out
  obtain ⟨_, _, r0, r1, r2, _⟩ := D2
  rw [← HG.out] at lg2 xd2 xw2
  rw [← HMF.out] at z r0 r1 r2
  unfold ptr at z
  have lf2 : mf < w2.heap.size := by have := b2.size; omega
  rw [hK] at r2
  clear xk2 xb2 o2 b2
  go_wp2_with fail
  go_ret
  exact Turns.same HL.out (by (repeat (first | with_reducible refine bel_alloc ?_ | with_reducible refine bel_drew ?_)); exact bel_end HB2.out (Below.refl _ _))
set_option maxHeartbeats 400000 in
theorem worker_admit (h : LAt w L st) (ho : LOk st n) (hn : n ≤ 900) (j : Nat) (hj : j < st.nw) (d : Nat) (hd : d < st.nd) (hne : st.wk j ≠ d) (K : Int) (hK : (st.dom (st.wk j)).wk = K + 1) (h17 : 0 < K) (ht : Hid (testNum (st.dom (st.wk j)).hard (st.dom (st.wk j)).cap K (allOf st (st.wk j) (-1)) ≠ 0)) :
    Calls Try.prog 14 #[.pointer (some ⟨L.g, 0, none⟩), .int .i64 j, .int .i64 (d : Nat)] w fun e w' => Turns w L st e (.int .i64 17) w' := by
  have hf := ho.wk j hj
  obtain ⟨bd, cap, edv, hcap⟩ := wfacts h ho.nd.1
  obtain ⟨lg, xd, xw, lbd, lwb, xk, xb⟩ := wfacts' h ho.nd.1 edv
  have y := xk j hj
  have C := Lib.hid (dfind_in h d hd)
  have hlen := ol_len h ho hf
  have hml := members_le st (st.wk j) (-1) 64
  have PA := Lib.hid (SeqG.params_any h (st.wk j) hf (by omega) (-1))
  have AP := all_perm h hf (-1)
  have TA := Lib.hid (test_perm (st.dom (st.wk j)).hard (st.dom (st.wk j)).cap K AP)
  have hq : (members st (st.wk j) (-1) 64 ++ (L.ol (st.wk j)).map (·.p)).length ≤ 964 := by rw [List.length_append, List.length_map]; omega
  have hal := AP.length_eq
  have HW := Lib.hid (fun W (k : Below w.heap.size w W) => wfacts' (h.below k) ho.nd.1 edv)
  have HD := Lib.hid (fun W (k : Below w.heap.size w W) i (hi : i < st.nd) => (h.below k).dom i hi)
  have hk := ho.wk_pos hj
  have hk2 := (ho.wk_range hf).2
  have hkd := ho.wk_range hd
  have lf := role_lt h (h.dom _ hf).role
  have ld := role_lt h (h.dom _ hd).role
  have d1 : decide ((j : Int) < 0) = false := decide_eq_false (by omega)
  have d2 : decide ((st.nw : Int) ≤ (j : Int)) = false := decide_eq_false (by omega)
  have hz : (j : Int) < (st.nw : Int) := by omega
  have hfz : ((st.wk j : Nat) : Int) < (st.nd : Int) := by omega
  have d3 : (((st.wk j : Nat) : Int) == ((d : Nat) : Int)) = false := by rw [beq_eq_false_iff_ne]; omega
  have e0 : (K == 0) = false := by rw [beq_eq_false_iff_ne]; omega
  have e1 : decide (0 < K) = true := decide_eq_true h17
  have e2 : (testNum (st.dom (st.wk j)).hard (st.dom (st.wk j)).cap K (allOf st (st.wk j) (-1)) != 0) = true := by rw [bne_iff_ne]; exact ht.out
  clear h17 ht
  have HL := Lib.hid h
  have HJ := Lib.hid hj
  have HF := Lib.hid hf
  have HDN := Lib.hid hd
  have HNE := Lib.hid hne
  generalize members st (st.wk j) (-1) 64 ++ (L.ol (st.wk j)).map (·.p) = qs at *
  generalize testNum (st.dom (st.wk j)).hard (st.dom (st.wk j)).cap K (allOf st (st.wk j) (-1)) = T at *
  unfold ptr at C
  obtain ⟨g, hg⟩ : ∃ g, g = L.g := ⟨_, rfl⟩
  rw [← hg] at xd xw lg C PA ⊢
  have HG := Lib.hid hg
  obtain ⟨md, hmd⟩ : ∃ m, m = L.db d := ⟨_, rfl⟩
  obtain ⟨mf, hmf⟩ : ∃ m, m = L.db (st.wk j) := ⟨_, rfl⟩
  rw [← hmd] at C ld
  rw [← hmf] at lf
  have HMD := Lib.hid hmd
  have HMF := Lib.hid hmf
  clear h ho hn hj hd hf hne hml hlen AP edv hg hmd hmf xk xb hal
  go_enter Try.func14, Try.ntmps14
  go_wp2_with fail
  refine C.out.mono ?_
  rintro e w1 ⟨rfl, hw1⟩
  obtain rfl := hw1.symm
  go_wp2_with fail
  refine PA.out.mono ?_
  rintro e w2 ⟨v2, rfl, o2, b2⟩
  obtain ⟨a2, n2, c2, rfl⟩ := SeqG.own_slice o2
  have hn2 : n2 = qs.length := by
    obtain ⟨_, ⟨e, e0⟩ | ⟨_, _, _, e, _⟩⟩ := o2 <;> cases e
    · omega
    · rfl
  subst hn2
  have TT := Lib.hid (fun W (k : Below w2.heap.size w2 W) => test_any (st.dom (st.wk j)).hard (st.dom (st.wk j)).cap K _ qs W ((owns_row o2).1.below k) (by omega))
  rw [TA.out] at TT
  have HB2 := Lib.hid b2
  have F2 := HW.out _ b2
  obtain ⟨lg2, xd2, xw2, lbd2, lwb2, xk2, xb2⟩ := F2
  have D2 := HD.out _ b2 _ HF.out
  have z := xb2 _ HF.out
  obtain ⟨_, _, r0, r1, r2, _⟩ := D2
  rw [← HG.out] at lg2 xd2 xw2
  rw [← HMF.out] at z r0 r1 r2
  unfold ptr at z
  have lf2 : mf < w2.heap.size := by have := b2.size; omega
  rw [hK] at r2
  clear xk2 xb2 o2 b2
  go_wp2_with fail
  have TW := TT.out (w2.alloc (.cells #[.bool (st.dom (st.wk j)).hard, .int .i64 (st.dom (st.wk j)).cap, .int .i64 K] 41)) (bel_alloc (Below.refl _ _))
  refine TW.mono ?_
  clear TW
  rintro e w3 ⟨rfl, b3⟩
  go_wp2_with fail
  go_ret
  exact Turns.same HL.out (bel_end (bel_end HB2.out (bel_alloc (Below.refl _ _))) b3)
/-- a worker is in another domain. -/
def movedW (st : LS) (j d : Nat) : LS := { st with dom := upd (upd st.dom (st.wk j) (addW (st.dom (st.wk j)) (-1))) d (addW (st.dom d) 1), wk := upd st.wk j d }
theorem LAt.moveW (h : LAt w L st) {j : Nat} (hj : j < st.nw) {d : Nat} (hd : d < st.nd) (hf : st.wk j < st.nd) (hne : st.wk j ≠ d) :
    LAt (((storedR w (L.db (st.wk j)) (st.dom (st.wk j)) ((st.dom (st.wk j)).wk - 1)).setCell ⟨L.db d, 2, none⟩ (.int .i64 ((st.dom d).wk + 1))).setCell ⟨L.wb, j, none⟩ (.int .i64 (d : Nat))) L (movedW st j d) ∧
    Next w L (((storedR w (L.db (st.wk j)) (st.dom (st.wk j)) ((st.dom (st.wk j)).wk - 1)).setCell ⟨L.db d, 2, none⟩ (.int .i64 ((st.dom d).wk + 1))).setCell ⟨L.wb, j, none⟩ (.int .i64 (d : Nat))) L := by
  obtain ⟨p1, n1⟩ := h.setRule hf ((st.dom (st.wk j)).wk - 1)
  have p2 := p1.setWk (i := d) hd ((st.dom d).wk + 1)
  have p3 := p2.setWkr (i := j) hj d
  have n2 := next_set (w := storedR w (L.db (st.wk j)) (st.dom (st.wk j)) ((st.dom (st.wk j)).wk - 1)) (o := 2) (v := .int .i64 ((st.dom d).wk + 1)) (h.dom d hd).role
  have n3 := next_set (w := (storedR w (L.db (st.wk j)) (st.dom (st.wk j)) ((st.dom (st.wk j)).wk - 1)).setCell ⟨L.db d, 2, none⟩ (.int .i64 ((st.dom d).wk + 1))) (o := j) (v := .int .i64 (d : Nat)) h.wks.role
  refine ⟨?_, (n1.trans n2).trans n3⟩
  have key : ∀ W s, LAt W L s → s = movedW st j d → LAt W L (movedW st j d) := fun W s h e => e ▸ h
  refine key _ _ p3 ?_
  unfold movedW addW
  simp only [upd_ne _ _ _ (Ne.symm hne), Int.sub_eq_add_neg]
set_option maxHeartbeats 400000 in
theorem worker_ok1 (h : LAt w L st) (ho : LOk st n) (hn : n ≤ 900) (j : Nat) (hj : j < st.nw) (d : Nat) (hd : d < st.nd) (hne : st.wk j ≠ d) (K : Int) (hK : (st.dom (st.wk j)).wk = K + 1) (h0 : 0 < K) (HT0 : Hid (testNum (st.dom (st.wk j)).hard (st.dom (st.wk j)).cap K (allOf st (st.wk j) (-1)) = 0)) :
    Calls Try.prog 14 #[.pointer (some ⟨L.g, 0, none⟩), .int .i64 j, .int .i64 (d : Nat)] w fun e w' => Turns w L (movedW st j d) e (.int .i64 0) w' := by
  have hf := ho.wk j hj
  obtain ⟨bd, cap, edv, hcap⟩ := wfacts h ho.nd.1
  obtain ⟨lg, xd, xw, lbd, lwb, xk, xb⟩ := wfacts' h ho.nd.1 edv
  have y := xk j hj
  have C := Lib.hid (dfind_in h d hd)
  have hlen := ol_len h ho hf
  have hml := members_le st (st.wk j) (-1) 64
  have PA := Lib.hid (SeqG.params_any h (st.wk j) hf (by omega) (-1))
  have AP := all_perm h hf (-1)
  have TA := Lib.hid (test_perm (st.dom (st.wk j)).hard (st.dom (st.wk j)).cap K AP)
  have hq : (members st (st.wk j) (-1) 64 ++ (L.ol (st.wk j)).map (·.p)).length ≤ 964 := by rw [List.length_append, List.length_map]; omega
  have hal := AP.length_eq
  have HW := Lib.hid (fun W (k : Below w.heap.size w W) => wfacts' (h.below k) ho.nd.1 edv)
  have HD := Lib.hid (fun W (k : Below w.heap.size w W) i (hi : i < st.nd) => (h.below k).dom i hi)
  have hk := ho.wk_pos hj
  have hk2 := (ho.wk_range hf).2
  have hkd := ho.wk_range hd
  have lf := role_lt h (h.dom _ hf).role
  have ld := role_lt h (h.dom _ hd).role
  have d1 : decide ((j : Int) < 0) = false := decide_eq_false (by omega)
  have d2 : decide ((st.nw : Int) ≤ (j : Int)) = false := decide_eq_false (by omega)
  have hz : (j : Int) < (st.nw : Int) := by omega
  have hfz : ((st.wk j : Nat) : Int) < (st.nd : Int) := by omega
  have d3 : (((st.wk j : Nat) : Int) == ((d : Nat) : Int)) = false := by rw [beq_eq_false_iff_ne]; omega
  have e0 : (K == 0) = false := by rw [beq_eq_false_iff_ne]; omega
  have e1 : decide (0 < K) = true := decide_eq_true h0
  clear h0
  have HL := Lib.hid h
  have HJ := Lib.hid hj
  have HF := Lib.hid hf
  have HDN := Lib.hid hd
  have HNE := Lib.hid hne
  generalize members st (st.wk j) (-1) 64 ++ (L.ol (st.wk j)).map (·.p) = qs at *
  generalize testNum (st.dom (st.wk j)).hard (st.dom (st.wk j)).cap K (allOf st (st.wk j) (-1)) = T at *
  unfold ptr at C
  obtain ⟨g, hg⟩ : ∃ g, g = L.g := ⟨_, rfl⟩
  rw [← hg] at xd xw lg C PA ⊢
  have HG := Lib.hid hg
  obtain ⟨md, hmd⟩ : ∃ m, m = L.db d := ⟨_, rfl⟩
  obtain ⟨mf, hmf⟩ : ∃ m, m = L.db (st.wk j) := ⟨_, rfl⟩
  rw [← hmd] at C ld
  rw [← hmf] at lf
  have HMD := Lib.hid hmd
  have HMF := Lib.hid hmf
  clear h ho hn hj hd hf hne hml hlen AP edv hg hmd hmf xk xb hal
  go_enter Try.func14, Try.ntmps14
  go_wp2_with fail
  refine C.out.mono ?_
  rintro e w1 ⟨rfl, hw1⟩
  obtain rfl := hw1.symm
  go_wp2_with fail
  refine PA.out.mono ?_
  rintro e w2 ⟨v2, rfl, o2, b2⟩
  obtain ⟨a2, n2, c2, rfl⟩ := SeqG.own_slice o2
  have hn2 : n2 = qs.length := by
    obtain ⟨_, ⟨e, e0⟩ | ⟨_, _, _, e, _⟩⟩ := o2 <;> cases e
    · omega
    · rfl
  subst hn2
  have TT := Lib.hid (fun W (k : Below w2.heap.size w2 W) => test_any (st.dom (st.wk j)).hard (st.dom (st.wk j)).cap K _ qs W ((owns_row o2).1.below k) (by omega))
  rw [TA.out] at TT
  have HB2 := Lib.hid b2
  have F2 := HW.out _ b2
  obtain ⟨lg2, xd2, xw2, lbd2, lwb2, xk2, xb2⟩ := F2
  have D2 := HD.out _ b2 _ HF.out
  have z := xb2 _ HF.out
  obtain ⟨_, _, r0, r1, r2, _⟩ := D2
  rw [← HG.out] at lg2 xd2 xw2
  rw [← HMF.out] at z r0 r1 r2
  unfold ptr at z
  have lf2 : mf < w2.heap.size := by have := b2.size; omega
  rw [hK] at r2
  clear xk2 xb2 o2 b2
  rw [HT0.out] at TT
  go_wp2_with fail
  have TW := TT.out (w2.alloc (.cells #[.bool (st.dom (st.wk j)).hard, .int .i64 (st.dom (st.wk j)).cap, .int .i64 K] 41)) (bel_alloc (Below.refl _ _))
  refine TW.mono ?_
  clear TW
  rintro e w3 ⟨rfl, b3⟩
  have q0 := (b3.cell (p := ⟨w2.heap.size, 0, none⟩) (by simp)).trans (show _ = some (Value.bool (st.dom (st.wk j)).hard) by go_simp)
  have q1 := (b3.cell (p := ⟨w2.heap.size, 1, none⟩) (by simp)).trans (show _ = some (Value.int .i64 (st.dom (st.wk j)).cap) by go_simp)
  have q2 := (b3.cell (p := ⟨w2.heap.size, 2, none⟩) (by simp)).trans (show _ = some (Value.int .i64 K) by go_simp)
  have lq : w2.heap.size < w3.heap.size := cell_lt q0
  have B3 : Below w.heap.size w w3 := bel_end (bel_end HB2.out (bel_alloc (Below.refl _ _))) b3
  clear b3
  have b3' : Below w.heap.size w w3 := B3
  have F3 := HW.out _ b3'
  obtain ⟨lg3, xd3, xw3, lbd3, lwb3, xk3, xb3⟩ := F3
  have yk := xk3 j HJ.out
  have zf := xb3 _ HF.out
  have Df := HD.out _ b3' _ HF.out
  have Dd := HD.out _ b3' _ HDN.out
  obtain ⟨rlf, ff, r0', r1', r2', _⟩ := Df
  obtain ⟨rld, fd, _, _, s2, _⟩ := Dd
  have hmne : L.db (st.wk j) ≠ L.db d := role_ne rlf rld (by intro e; cases e; exact HNE.out rfl)
  have P := Lib.hid ((HL.out.below b3').moveW HJ.out HDN.out HF.out HNE.out)
  rw [show (st.dom (st.wk j)).wk - 1 = K by omega] at P
  rw [hK] at r2'
  have fw := (HL.out.below b3').wks.froz j
  have hwf : L.wb ≠ L.db (st.wk j) := role_ne (HL.out.below b3').wks.role rlf (by intro e; cases e)
  have hwd : L.wb ≠ L.db d := role_ne (HL.out.below b3').wks.role rld (by intro e; cases e)
  have hgf : L.g ≠ L.db (st.wk j) := role_ne HL.out.led.role rlf (by intro e; cases e)
  have hgd : L.g ≠ L.db d := role_ne HL.out.led.role rld (by intro e; cases e)
  rw [← HG.out] at lg3 xd3 xw3 hgf hgd
  rw [← HMF.out] at zf ff r0' r1' r2' hmne P hwf hgf
  rw [← HMD.out] at fd s2 hmne P hwd hgd
  unfold ptr at zf
  unfold storedR at P
  have ff0 := ff 0
  have ff1 := ff 1
  have ff2 := ff 2
  have fd2 := fd 2
  have lf3 : mf < w3.heap.size := cell_lt r0'
  have ld3 : md < w3.heap.size := cell_lt s2
  have HB3 := Lib.hid b3'
  clear xk3 xb3 b3' ff fd rlf rld r0 r1 r2 lg2 xd2 xw2 lbd2 lwb2 z lf2 B3 xd xw lg
  go_wp2_with fail
  go_region
  go_wp2_with fail
  go_ret
  first
    | exact ⟨rfl, _, P.out.1.drew, ((Next.of_below L HB3.out).trans P.out.2).drew⟩
    | exact ⟨rfl, _, P.out.1, (Next.of_below L HB3.out).trans P.out.2⟩
set_option maxHeartbeats 400000 in
theorem worker_ok0 (h : LAt w L st) (ho : LOk st n) (hn : n ≤ 900) (j : Nat) (hj : j < st.nw) (d : Nat) (hd : d < st.nd) (hne : st.wk j ≠ d) (K : Int) (hK : (st.dom (st.wk j)).wk = K + 1) (h0 : K = 0 ∧ (allOf st (st.wk j) (-1)).length = 0) :
    Calls Try.prog 14 #[.pointer (some ⟨L.g, 0, none⟩), .int .i64 j, .int .i64 (d : Nat)] w fun e w' => Turns w L (movedW st j d) e (.int .i64 0) w' := by
  have hf := ho.wk j hj
  obtain ⟨bd, cap, edv, hcap⟩ := wfacts h ho.nd.1
  obtain ⟨lg, xd, xw, lbd, lwb, xk, xb⟩ := wfacts' h ho.nd.1 edv
  have y := xk j hj
  have C := Lib.hid (dfind_in h d hd)
  have hlen := ol_len h ho hf
  have hml := members_le st (st.wk j) (-1) 64
  have PA := Lib.hid (SeqG.params_any h (st.wk j) hf (by omega) (-1))
  have AP := all_perm h hf (-1)
  have TA := Lib.hid (test_perm (st.dom (st.wk j)).hard (st.dom (st.wk j)).cap K AP)
  have hq : (members st (st.wk j) (-1) 64 ++ (L.ol (st.wk j)).map (·.p)).length ≤ 964 := by rw [List.length_append, List.length_map]; omega
  have hal := AP.length_eq
  have HW := Lib.hid (fun W (k : Below w.heap.size w W) => wfacts' (h.below k) ho.nd.1 edv)
  have HD := Lib.hid (fun W (k : Below w.heap.size w W) i (hi : i < st.nd) => (h.below k).dom i hi)
  have hk := ho.wk_pos hj
  have hk2 := (ho.wk_range hf).2
  have hkd := ho.wk_range hd
  have lf := role_lt h (h.dom _ hf).role
  have ld := role_lt h (h.dom _ hd).role
  have d1 : decide ((j : Int) < 0) = false := decide_eq_false (by omega)
  have d2 : decide ((st.nw : Int) ≤ (j : Int)) = false := decide_eq_false (by omega)
  have hz : (j : Int) < (st.nw : Int) := by omega
  have hfz : ((st.wk j : Nat) : Int) < (st.nd : Int) := by omega
  have d3 : (((st.wk j : Nat) : Int) == ((d : Nat) : Int)) = false := by rw [beq_eq_false_iff_ne]; omega
  have e0 : (K == 0) = true := by rw [beq_iff_eq]; exact h0.1
  have e1 : decide (0 < K) = false := decide_eq_false (by omega)
  rw [← hal] at h0
  have e2 : (members st (st.wk j) (-1) 64 ++ (L.ol (st.wk j)).map (·.p)).length = 0 := h0.2
  clear h0
  have HL := Lib.hid h
  have HJ := Lib.hid hj
  have HF := Lib.hid hf
  have HDN := Lib.hid hd
  have HNE := Lib.hid hne
  generalize members st (st.wk j) (-1) 64 ++ (L.ol (st.wk j)).map (·.p) = qs at *
  generalize testNum (st.dom (st.wk j)).hard (st.dom (st.wk j)).cap K (allOf st (st.wk j) (-1)) = T at *
  unfold ptr at C
  obtain ⟨g, hg⟩ : ∃ g, g = L.g := ⟨_, rfl⟩
  rw [← hg] at xd xw lg C PA ⊢
  have HG := Lib.hid hg
  obtain ⟨md, hmd⟩ : ∃ m, m = L.db d := ⟨_, rfl⟩
  obtain ⟨mf, hmf⟩ : ∃ m, m = L.db (st.wk j) := ⟨_, rfl⟩
  rw [← hmd] at C ld
  rw [← hmf] at lf
  have HMD := Lib.hid hmd
  have HMF := Lib.hid hmf
  clear h ho hn hj hd hf hne hml hlen AP edv hg hmd hmf xk xb hal
  go_enter Try.func14, Try.ntmps14
  go_wp2_with fail
  refine C.out.mono ?_
  rintro e w1 ⟨rfl, hw1⟩
  obtain rfl := hw1.symm
  go_wp2_with fail
  refine PA.out.mono ?_
  rintro e w2 ⟨v2, rfl, o2, b2⟩
  obtain ⟨a2, n2, c2, rfl⟩ := SeqG.own_slice o2
  have hn2 : n2 = qs.length := by
    obtain ⟨_, ⟨e, e0⟩ | ⟨_, _, _, e, _⟩⟩ := o2 <;> cases e
    · omega
    · rfl
  subst hn2
  have TT := Lib.hid (fun W (k : Below w2.heap.size w2 W) => test_any (st.dom (st.wk j)).hard (st.dom (st.wk j)).cap K _ qs W ((owns_row o2).1.below k) (by omega))
  rw [TA.out] at TT
  have HB2 := Lib.hid b2
  have F2 := HW.out _ b2
  obtain ⟨lg2, xd2, xw2, lbd2, lwb2, xk2, xb2⟩ := F2
  have D2 := HD.out _ b2 _ HF.out
  have z := xb2 _ HF.out
  obtain ⟨_, _, r0, r1, r2, _⟩ := D2
  rw [← HG.out] at lg2 xd2 xw2
  rw [← HMF.out] at z r0 r1 r2
  unfold ptr at z
  have lf2 : mf < w2.heap.size := by have := b2.size; omega
  rw [hK] at r2
  clear xk2 xb2 o2 b2
  rw [e2]
  have B3 : Below w.heap.size w (w2.alloc (.cells #[.bool (st.dom (st.wk j)).hard, .int .i64 (st.dom (st.wk j)).cap, .int .i64 K] 41)) := bel_end HB2.out (bel_alloc (Below.refl _ _))
  go_upto_region 18 with fail
  have b3' : Below w.heap.size w (w2.alloc (.cells #[.bool (st.dom (st.wk j)).hard, .int .i64 (st.dom (st.wk j)).cap, .int .i64 K] 41)) := B3
  have F3 := HW.out _ b3'
  obtain ⟨lg3, xd3, xw3, lbd3, lwb3, xk3, xb3⟩ := F3
  have yk := xk3 j HJ.out
  have zf := xb3 _ HF.out
  have Df := HD.out _ b3' _ HF.out
  have Dd := HD.out _ b3' _ HDN.out
  obtain ⟨rlf, ff, r0', r1', r2', _⟩ := Df
  obtain ⟨rld, fd, _, _, s2, _⟩ := Dd
  have hmne : L.db (st.wk j) ≠ L.db d := role_ne rlf rld (by intro e; cases e; exact HNE.out rfl)
  have P := Lib.hid ((HL.out.below b3').moveW HJ.out HDN.out HF.out HNE.out)
  rw [show (st.dom (st.wk j)).wk - 1 = K by omega] at P
  rw [hK] at r2'
  have fw := (HL.out.below b3').wks.froz j
  have hwf : L.wb ≠ L.db (st.wk j) := role_ne (HL.out.below b3').wks.role rlf (by intro e; cases e)
  have hwd : L.wb ≠ L.db d := role_ne (HL.out.below b3').wks.role rld (by intro e; cases e)
  have hgf : L.g ≠ L.db (st.wk j) := role_ne HL.out.led.role rlf (by intro e; cases e)
  have hgd : L.g ≠ L.db d := role_ne HL.out.led.role rld (by intro e; cases e)
  rw [← HG.out] at lg3 xd3 xw3 hgf hgd
  rw [← HMF.out] at zf ff r0' r1' r2' hmne P hwf hgf
  rw [← HMD.out] at fd s2 hmne P hwd hgd
  unfold ptr at zf
  unfold storedR at P
  have ff0 := ff 0
  have ff1 := ff 1
  have ff2 := ff 2
  have fd2 := fd 2
  have lf3 : mf < (w2.alloc (.cells #[.bool (st.dom (st.wk j)).hard, .int .i64 (st.dom (st.wk j)).cap, .int .i64 K] 41)).heap.size := cell_lt r0'
  have ld3 : md < (w2.alloc (.cells #[.bool (st.dom (st.wk j)).hard, .int .i64 (st.dom (st.wk j)).cap, .int .i64 K] 41)).heap.size := cell_lt s2
  have HB3 := Lib.hid b3'
  clear xk3 xb3 b3' ff fd rlf rld r0 r1 r2 lg2 xd2 xw2 lbd2 lwb2 z lf2 B3 xd xw lg
  go_region
  go_wp2_with fail
  go_ret
  first
    | exact ⟨rfl, _, P.out.1.drew, ((Next.of_below L HB3.out).trans P.out.2).drew⟩
    | exact ⟨rfl, _, P.out.1, (Next.of_below L HB3.out).trans P.out.2⟩
end
end Go.Proofs.Ytmcilmmnpolieaa
/- What ledger.Worker answers of any worker and any domain. Each theorem's premises are its conditions. -/
namespace Go.Proofs.Ytmcilmmnpolieaa
open Go.ChangeShapes Go.WideShapes Go.ChangeAt Go.RowKit Go.Shelf Go.Deep

theorem worker_any {w : World} {L : Lay} {st : LS} {n : Nat} (h : LAt w L st) (ho : LOk st n) (hn : n ≤ 900) (wi d : Int) :
    Calls Try.prog 14 #[.pointer (some ⟨L.g, 0, none⟩), .int .i64 wi, .int .i64 d] w fun e w' => Turns w L (workerS st wi d).1 e (.int .i64 (workerS st wi d).2) w' := by
  by_cases hw : 0 ≤ wi ∧ wi < st.nw
  · obtain ⟨j, rfl⟩ : ∃ k : Nat, wi = k := ⟨wi.toNat, by omega⟩
    have hj : j < st.nw := by omega
    by_cases hd : 0 ≤ d ∧ d < st.nd
    · obtain ⟨k, rfl⟩ : ∃ k : Nat, d = k := ⟨d.toNat, by omega⟩
      have hk : k < st.nd := by omega
      have e1 : workerS st j k = if (st.wk j : Int) = k then (st, 15) else
          if (st.dom (st.wk j)).wk - 1 = 0 ∧ 0 < (allOf st (st.wk j) (-1)).length then (st, 16) else
          if 0 < (st.dom (st.wk j)).wk - 1 ∧ testNum (st.dom (st.wk j)).hard (st.dom (st.wk j)).cap ((st.dom (st.wk j)).wk - 1) (allOf st (st.wk j) (-1)) ≠ 0 then (st, 17) else (movedW st j k, 0) := by
        unfold workerS movedW; rw [if_pos hw, if_pos hd]; simp only [Int.toNat_natCast]
      rw [e1]
      by_cases h15 : (st.wk j : Int) = k
      · rw [if_pos h15]
        have : st.wk j = k := by omega
        subst this
        exact worker_there h j hj hk
      · rw [if_neg h15]
        have hne : st.wk j ≠ k := fun e => h15 (by omega)
        obtain ⟨K, hK⟩ : ∃ K, K = (st.dom (st.wk j)).wk - 1 := ⟨_, rfl⟩
        have hK1 : (st.dom (st.wk j)).wk = K + 1 := by omega
        have hK0 : 0 ≤ K := by have := ho.wk_pos hj; omega
        rw [← hK]
        by_cases h16 : K = 0 ∧ 0 < (allOf st (st.wk j) (-1)).length
        · rw [if_pos h16]
          exact worker_state h ho hn j hj k hk hne K hK1 h16
        · rw [if_neg h16]
          by_cases h17 : 0 < K ∧ testNum (st.dom (st.wk j)).hard (st.dom (st.wk j)).cap K (allOf st (st.wk j) (-1)) ≠ 0
          · rw [if_pos h17]
            exact worker_admit h ho hn j hj k hk hne K hK1 h17.1 (Lib.hid h17.2)
          · rw [if_neg h17]
            by_cases h0 : 0 < K
            · exact worker_ok1 h ho hn j hj k hk hne K hK1 h0 (Lib.hid (Classical.byContradiction fun ht => h17 ⟨h0, ht⟩))
            · have h00 : K = 0 := by omega
              refine worker_ok0 h ho hn j hj k hk hne K hK1 ⟨h00, ?_⟩
              have := fun hl => h16 ⟨h00, hl⟩
              omega
    · have e1 : workerS st j d = (st, 14) := by unfold workerS; rw [if_pos hw, if_neg hd]
      rw [e1]
      exact worker_nod h ho.nd.1 j hj d hd
  · have e1 : workerS st wi d = (st, 10) := by unfold workerS; rw [if_neg hw]
    rw [e1]
    exact worker_out h wi d hw
end Go.Proofs.Ytmcilmmnpolieaa
/- What ledger.Change answers, and what it turns. Each theorem's premises are its conditions. -/
namespace Go.Proofs.Ytmcilmmnpolieaa
open Go.ChangeShapes Go.WideShapes Go.ChangeAt Go.RowKit Go.Shelf Go.Deep

section
variable {w : World} {L : Lay} {st : LS} {n : Nat}
/-- a member's params are others. -/
def stored1 (w : World) (m : Nat) (p : P3) : World := ((w.setCell ⟨m, 1, none⟩ (.int .i64 p.1)).setCell ⟨m, 2, none⟩ (.int .i64 p.2.1)).setCell ⟨m, 3, none⟩ (.int .i64 p.2.2)
theorem LAt.setMem (h : LAt w L st) {i : Nat} (hi : i < 64) {d : Nat} {p0 : P3} (hs : st.srv i = some (d, p0)) (p : P3) :
    LAt (stored1 w (L.mb i) p) L { st with srv := upd st.srv i (some (d, p)) } ∧ Next w L (stored1 w (L.mb i) p) L := by
  have hM := h.mem i hi
  rw [hs] at hM
  obtain ⟨hr, hf, c0, c1, c2, c3⟩ := hM
  simp only [Nat.reduceAdd] at c1 c2 c3
  have hother : ∀ k, k ≠ L.mb i → Same w (stored1 w (L.mb i) p) k := fun k hk => by
    unfold stored1 Same
    rw [Below.heap_setCell _ _ _ _ hk, Below.heap_setCell _ _ _ _ hk, Below.heap_setCell _ _ _ _ hk]
  have hsz : (stored1 w (L.mb i) p).heap.size = w.heap.size := by unfold stored1; simp
  have e : Ext w L (stored1 w (L.mb i) p) L (· = .mem i) := fun k r hk hr' => ⟨hk, hother k (role_ne hk hr hr')⟩
  refine ⟨⟨fun k hk => by rw [hsz]; exact h.lt k hk, h.led.ext e (by simp) rfl rfl rfl fun j _ => ?_, h.doms.ext e (by simp) rfl fun _ _ => rfl, h.wks.ext e (by simp) rfl fun _ _ => rfl,
    fun j hj => (h.dom j hj).ext e (by simp) (by simp) rfl rfl rfl, fun j hj => ?_⟩, ⟨rfl, ?_, fun _ h => .inl h⟩⟩
  · unfold srvPtr
    by_cases hji : j = i
    · subst hji; simp only [upd_self, hs]
    · simp only [upd_ne _ _ _ hji]
  · by_cases hji : j = i
    · subst hji
      simp only [upd_self]
      refine ⟨hr, fun o => ?_, ?_, ?_, ?_, ?_⟩
      · unfold stored1; simp only [World.frozen?_setCell]; exact hf o
      · unfold stored1; rw [set_other (by omega), set_other (by omega), set_other (by omega)]; exact c0
      · unfold stored1; rw [set_other (by omega), set_other (by omega)]; exact World.cell?_setCell_same _ _ _ c1
      · unfold stored1; rw [set_other (by omega)]; exact World.cell?_setCell_same _ _ _ ((set_other (by omega)).trans c2)
      · unfold stored1; exact World.cell?_setCell_same _ _ _ ((set_other (by omega)).trans ((set_other (by omega)).trans c3))
    · simp only [upd_ne _ _ _ hji]
      exact (h.mem j hj).ext e (by simpa using hji) rfl
  · have hmi : L.role (L.mb i) ≠ none := by rw [hr]; exact fun e => by cases e
    exact (((Only.refl w fun k => L.role k ≠ none).set (.inl hmi) _).set (.inl hmi) _).set (.inl hmi) _
set_option maxHeartbeats 1000000 in
theorem change_any (h : LAt w L st) (ho : LOk st n) (hn : n ≤ 900) (id : Int) (p : P3) :
    Calls Try.prog 10 #[.pointer (some ⟨L.g, 0, none⟩), .int .i64 id, .agg #[.int .i64 p.1, .int .i64 p.2.1, .int .i64 p.2.2]] w fun e w' => Turns w L (changeS st id p).1 e (.int .i64 (changeS st id p).2) w' := by
  have b1 := bel_alloc (Below.refl w.heap.size w) (o := .cells #[.int .i64 p.1, .int .i64 p.2.1, .int .i64 p.2.2] 24)
  have h1 := h.below b1
  by_cases hid : 0 ≤ id ∧ id < 64
  · obtain ⟨i, rfl⟩ : ∃ k : Nat, id = k := ⟨id.toNat, by omega⟩
    have hi : i < 64 := by omega
    cases hs : st.srv i with
    | none =>
      have e0 : changeS st i p = (st, 14) := by unfold changeS; rw [if_pos hid]; simp only [Int.toNat_natCast, hs]
      rw [e0]
      have C := Lib.hid (member_any L.g i (sfind_none h1 i hi hs))
      have HL := Lib.hid h
      have HB := Lib.hid b1
      obtain ⟨g, hg⟩ : ∃ g, g = L.g := ⟨_, rfl⟩
      rw [← hg] at C ⊢
      clear h h1 hs e0 b1 hg
      go_enter Try.func10, Try.ntmps10
      go_wp2_with fail
      refine C.out.mono ?_
      rintro e w1 ⟨rfl, rfl⟩
      go_wp2_with fail
      go_ret
      exact Turns.same HL.out HB.out
    | some s =>
      obtain ⟨dn, q⟩ := s
      have C := Lib.hid (member_any L.g i (sfind_some h1 i hi hs))
      have PA := Lib.hid (fun W (k : Below (w.alloc (.cells #[.int .i64 p.1, .int .i64 p.2.1, .int .i64 p.2.2] 24)).heap.size (w.alloc (.cells #[.int .i64 p.1, .int .i64 p.2.1, .int .i64 p.2.2] 24)) W) => passes_any (h1.below k) ho hn (dn : Int) i p)
      have HE : Hid (changeS st i p = if passS st (dn : Int) i p = 0 then ({ st with srv := upd st.srv i (some (dn, p)) }, 0) else (st, passS st (dn : Int) i p)) := by show _ = _; unfold changeS; rw [if_pos hid]; simp only [Int.toNat_natCast, hs]
      rw [HE.out]
      have hM := h1.mem i hi
      rw [hs] at hM
      obtain ⟨hr, _, c0, _⟩ := hM
      have lm := role_lt h1 hr
      have HL := Lib.hid h
      have HL1 := Lib.hid h1
      have HB := Lib.hid b1
      have hlm0 : L.mb i < w.heap.size := role_lt h hr
      have R0 := Below.refl (w.alloc (.cells #[.int .i64 p.1, .int .i64 p.2.1, .int .i64 p.2.2] 24)).heap.size (w.alloc (.cells #[.int .i64 p.1, .int .i64 p.2.1, .int .i64 p.2.2] 24))
      by_cases hp : passS st (dn : Int) i p = 0
      · rw [if_pos hp]
        replace PA := Lib.hid (fun W k => hp ▸ PA.out W k)
        have HS := Lib.hid hs
        unfold ptr at C
        obtain ⟨g, hg⟩ : ∃ g, g = L.g := ⟨_, rfl⟩
        rw [← hg] at C PA ⊢
        have HG := Lib.hid hg
        obtain ⟨m, hm⟩ : ∃ m, m = L.mb i := ⟨_, rfl⟩
        rw [← hm] at C c0 lm hlm0
        have HM := Lib.hid hm
        clear h h1 hs hp b1 hg hm hr HE
        go_enter Try.func10, Try.ntmps10
        go_wp2_with fail
        refine C.out.mono ?_
        rintro e w1 ⟨rfl, rfl⟩
        go_wp2_with fail
        go_cut [9] from 19 to 26 (fun s wx => s = .int .i64 0 ∧ Below (w.alloc (.cells #[.int .i64 p.1, .int .i64 p.2.1, .int .i64 p.2.2] 24)).heap.size (w.alloc (.cells #[.int .i64 p.1, .int .i64 p.2.1, .int .i64 p.2.2] 24)) wx)
        case first =>
          go_region_with (go_at_call 29; refine (PA.out _ (bel_drew R0)).mono ?_; rintro e w2 ⟨rfl, b2⟩)
          all_goals go_wp2_with fail
          all_goals go_meet
          all_goals exact ⟨rfl, bel_end (bel_drew R0) b2⟩
        case rest =>
          obtain ⟨rfl, b2⟩ := hcut
          have hb2 : Below w.heap.size w wc := bel_end HB.out b2
          have hL2 := HL.out.below hb2
          have q0 := (b2.cell (p := ⟨w.heap.size, 0, none⟩) (by simp)).trans (show _ = some (Value.int .i64 p.1) by go_simp)
          have q1 := (b2.cell (p := ⟨w.heap.size, 1, none⟩) (by simp)).trans (show _ = some (Value.int .i64 p.2.1) by go_simp)
          have q2 := (b2.cell (p := ⟨w.heap.size, 2, none⟩) (by simp)).trans (show _ = some (Value.int .i64 p.2.2) by go_simp)
          have lw : w.heap.size < wc.heap.size := cell_lt q0
          have hM2 := hL2.mem i hi
          rw [HS.out] at hM2
          obtain ⟨_, mf, _, m1, m2, m3⟩ := hM2
          rw [← HM.out] at mf m1 m2 m3
          simp only [Nat.reduceAdd] at m1 m2 m3
          have f1 := mf 1
          have f2 := mf 2
          have f3 := mf 3
          have lm2 : m < wc.heap.size := cell_lt m1
          have HP := Lib.hid (hL2.setMem hi HS.out p)
          have HB2 := Lib.hid hb2
          rw [← HM.out] at HP
          unfold stored1 at HP
          clear hL2 b2 hb2 mf
          go_wp2_with fail
          go_ret
          exact ⟨rfl, _, HP.out.1, (Next.of_below L HB2.out).trans HP.out.2⟩
      · rw [if_neg hp]
        generalize passS st (dn : Int) i p = E at *
        have d1 : (E != 0) = true := by rw [bne_iff_ne]; exact hp
        have HS := Lib.hid hs
        unfold ptr at C
        obtain ⟨g, hg⟩ : ∃ g, g = L.g := ⟨_, rfl⟩
        rw [← hg] at C PA ⊢
        have HG := Lib.hid hg
        obtain ⟨m, hm⟩ : ∃ m, m = L.mb i := ⟨_, rfl⟩
        rw [← hm] at C c0 lm hlm0
        have HM := Lib.hid hm
        clear h h1 hs hp b1 hg hm hr HE
        go_enter Try.func10, Try.ntmps10
        go_wp2_with fail
        refine C.out.mono ?_
        rintro e w1 ⟨rfl, rfl⟩
        go_wp2_with fail
        go_cut [9] from 19 to 26 (fun s wx => s = .int .i64 E ∧ Below (w.alloc (.cells #[.int .i64 p.1, .int .i64 p.2.1, .int .i64 p.2.2] 24)).heap.size (w.alloc (.cells #[.int .i64 p.1, .int .i64 p.2.1, .int .i64 p.2.2] 24)) wx)
        case first =>
          go_region_with (go_at_call 29; refine (PA.out _ (bel_drew R0)).mono ?_; rintro e w2 ⟨rfl, b2⟩)
          all_goals go_wp2_with fail
          all_goals go_meet
          all_goals exact ⟨rfl, bel_end (bel_drew R0) b2⟩
        case rest =>
          obtain ⟨rfl, b2⟩ := hcut
          have hb2 : Below w.heap.size w wc := bel_end HB.out b2
          go_wp2_with fail
          go_ret
          exact Turns.same HL.out hb2
  · have e0 : changeS st id p = (st, 10) := by unfold changeS; rw [if_neg hid]
    rw [e0]
    have C := Lib.hid fun (g : Nat) (w2 : World) => member_any g id (sfind_out (w := w2) id hid ⟨g, 3, none⟩)
    have HL := Lib.hid h
    have HB := Lib.hid b1
    obtain ⟨g, hg⟩ : ∃ g, g = L.g := ⟨_, rfl⟩
    rw [← hg]
    clear h h1 hid e0 b1 hg
    go_enter Try.func10, Try.ntmps10
    go_wp2_with fail
    refine (C.out _ _).mono ?_
    rintro e w1 ⟨rfl, rfl⟩
    go_wp2_with fail
    go_ret
    exact Turns.same HL.out HB.out
end
end Go.Proofs.Ytmcilmmnpolieaa
