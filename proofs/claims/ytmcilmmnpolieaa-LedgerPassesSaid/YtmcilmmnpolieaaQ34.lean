/- LedgerPasses answers true at every calls. No condition. The law LedgerPasses: its loop over members, and over what is owed. The law LedgerPasses: its box of the domain's number, and what it is told of each domain. What the law LedgerPasses keeps as it goes through the domains: the ledger, its own boxes, and the marks of its loops. A ledger that goes through leave, go and join, with two boxes beside it; what each call answers there. What the law's charged tells: the params of all members of a domain, and of what it owes. Each theorem's premises are its conditions; the statement's own theorem has none. -/
import Derived.Test.YtmcilmmnpolieaaQ18
import Derived.Test.YtmcilmmnpolieaaQ22
import Derived.Test.YtmcilmmnpolieaaQ26
import Derived.Test.YtmcilmmnpolieaaQ27
import Derived.Test.YtmcilmmnpolieaaQ33
import Derived.Deep.RegionLaw
import Derived.Deep.RegionHeld3
import Derived.Sort.CutIn
import Derived.Deep.CutBlock
import Derived.Deep.DeepCutAuto
/- What the law's charged tells: the params of all members of a domain, and of what it owes. Each theorem's premises are its conditions. -/
namespace Go.Proofs.Ytmcilmmnpolieaa.SeqG
open Go.RowKit Go.Shelf Go.Deep
attribute [local go_sem] Oper.semAt_some

theorem Bel2.lower {M B B' : Nat} {U V : World} (h : Bel2 M B U V) (hB : B' ≤ B) : Bel2 M B' U V := ⟨h.os, h.tape, h.output, h.size, fun k hk => h.block k (Nat.lt_of_lt_of_le hk hB)⟩
theorem own_slice64 {U : World} {B e size k : Nat} {v : Value} {xs : List Value} (h : U.ownsRow B e size v k xs) (hk : k ≤ 64) : ∃ a m c, v = .slice a m c ∧ m ≤ 64 := by
  obtain ⟨_, ⟨rfl, _⟩ | ⟨g, cap, cur, rfl, _⟩⟩ := h
  · exact ⟨_, _, _, rfl, by omega⟩
  · exact ⟨_, _, _, rfl, hk⟩
theorem results_cc {fn : Func} {p q : Tmp} {ty tz : TypeId} (h : fn.results = #[.cell p ty, .cell q tz]) (tmps : Array Value) (P : Program) (w : World) :
    (results fn tmps).run P w =
      ((asAddr (tmps.getD p undef)).run P w).andThen fun a w₁ => ((loadVar ty a).run P w₁).andThen fun x w₂ => ((asAddr (tmps.getD q undef)).run P w₂).andThen fun b w₃ => ((loadVar tz b).run P w₃).andThen fun y w₄ => .ok (.tuple #[x, y]) w₄ := by
  simp only [results, h]
  simp [Sem.run_bind, Result.andThen]
theorem ob_shape {w : World} {B : Nat} {v : Value} {l : List Ow} (h : OwnsOB w B v l) : ∃ a cap, v = .slice a l.length cap ∧ ∀ k, k < l.length → ∃ gb, a = some ⟨gb, 0, none⟩ ∧ B ≤ gb ∧ gb < w.heap.size ∧ OwAt w gb (k * 5) (l.getD k default) := by
  rcases owed_shape (own_base h (Nat.zero_le B)) with ⟨e, e0⟩ | ⟨gb, cap, e, hlt, _, _, hat⟩
  · exact ⟨none, 0, by rw [e, e0]; rfl, fun k hk => by rw [e0] at hk; simp at hk⟩
  · exact ⟨_, cap, e, fun k hk => ⟨gb, rfl, (h.lt gb (by rw [e]; rfl)).1, hlt, hat k hk⟩⟩
/-- what holds at the head of charged's second loop. -/
structure ChgAt (M D : Nat) (w1 W w5 : World) (v : Value) (qs : List P3) (wr : World) : Prop where
  box : BoxP (M + 1) M v qs wr
  bel : Bel2 M M w1 wr
  dfr : wr.heap[D]? = some (.deferred (some []))
  own : ∀ b, v.ownBlock = some b → b < W.heap.size ∨ w5.heap.size ≤ b
  same : ∀ b, W.heap.size ≤ b → b < w5.heap.size → Same w5 wr b
  s5 : w5.heap.size ≤ wr.heap.size
  sM : M + 1 ≤ W.heap.size
theorem ChgAt.step {M D : Nat} {w1 W w5 wr w11 : World} {a : Option Addr} {n c g2 cap2 : Nat} {qs : List P3} {p : P3} {o : Obj} (h : ChgAt M D w1 W w5 (.slice a n c) qs wr) (hW5 : W.heap.size ≤ w5.heap.size)
    (ho : w11.ownsRow (M + 1) 24 3 (.slice (some ⟨g2, 0, none⟩) (qs.length + 1) cap2) (qs.length + 1) (pcells qs ++ pcells [p])) (hg : (wr.drew.alloc o).grownBy w11 (Value.slice a n c).ownBlock)
    (hat : (Value.slice a n c).ownBlock = some g2 ∨ wr.heap.size ≤ g2) : ChgAt M D w1 W w5 (.slice (some ⟨g2, 0, none⟩) (qs.length + 1) cap2) (qs ++ [p]) (w11.setCell ⟨M, 0, none⟩ (.slice (some ⟨g2, 0, none⟩) (qs.length + 1) cap2)) := by
  have hsM : M + 1 ≤ wr.heap.size := Nat.le_trans h.sM (Nat.le_trans hW5 h.s5)
  have hs5 := h.s5
  have hsW := h.sM
  obtain ⟨h1, h2, h3⟩ := app_end h.box (bel_alloc (bel_drew (Below.refl wr.heap.size wr)) (o := o)) hsM ho hg
  refine ⟨h3, h.bel.trans (h2.lower (by omega)), h1.same _ _ h.dfr rfl, fun b e => ?_, fun b hb1 hb2 => ?_, Nat.le_trans h.s5 h2.size, h.sM⟩
  · have e' : g2 = b := Option.some.inj e
    subst e'
    rcases hat with h4 | h4
    · exact h.own _ h4
    · exact .inr (by omega)
  · have hne : some b ≠ (Value.slice a n c).ownBlock := fun e => by rcases h.own b e.symm with h4 | h4 <;> omega
    have s1 : Same w11 (w11.setCell ⟨M, 0, none⟩ (.slice (some ⟨g2, 0, none⟩) (qs.length + 1) cap2)) b := Below.heap_setCell _ _ _ _ (by show b ≠ M; omega)
    have s2 : Same wr.drew w11 b := (hg.block b (by simp; omega) hne).trans (Below.heap_alloc _ _ _ (by simp; omega))
    exact s1.trans (s2.trans (h.same b hb1 hb2))
set_option maxRecDepth 100000 in
set_option maxHeartbeats 8000000 in
theorem charged_in {w : World} {L : Lay} {st : LS} {n : Nat} (h : LAt w L st) (ho : LOk st n) (hn : n ≤ 900) (d : Nat) (hd : d < st.nd) :
    Calls Try.prog 21 #[.pointer (some ⟨L.g, 0, none⟩), .int .i64 d] w fun e w' => ∃ v, e = .returned (.tuple #[v, .bool true]) ∧ Owns w' w.heap.size v (members st d (-1) 64 ++ (L.ol d).map (·.p)) ∧ Below w.heap.size w w' := by
  obtain ⟨i0, hi, hz0, hz1, hz2⟩ := info_parts Try.infoParams
  have hB0 := bel_alloc (bel_alloc (Below.refl w.heap.size w) (o := .cells #[.slice none 0 0] 50)) (o := .cells #[.bool false] 4)
  have ML := Lib.hid (callsIn_wide (n := 5).2 (members_any (h.below hB0) d))
  have HL := Lib.hid h
  have HO := Lib.hid ho
  have HBM := Lib.hid (butOf_members st d (-1) 64)
  refine (callsIn_wide (n := 6)).1 ?_
  refine callsIn_of_wp_marks Try.func21 rfl trivial ?_ rfl
  simp only [Try.ntmps21, List.size_toArray, List.length_cons, List.length_nil, Nat.reduceAdd, Nat.reduceSub, Array.replicate_succ, Array.replicate_zero, List.push_toArray, List.append_toArray, List.nil_append, List.cons_append]
  obtain ⟨g, hg⟩ : ∃ g, g = L.g := ⟨_, rfl⟩
  rw [← hg] at ML ⊢
  have HGG := Lib.hid hg
  have HB0 := Lib.hid hB0
  have HDD := Lib.hid hd
  clear h hg hB0 hd ho
  have hq : ∀ W : World, (binOp .eql 61 (.func (.func 44) #[] #[.pointer (some ⟨w.heap.size + 1 + 1, 0, none⟩)]) .nilFunc).run Try.prog W = .ok (.bool false) W := fun _ => rfl
  gi_wp2_with (refine ⟨trivial, ?_⟩; gi_at_call 24; refine ML.out.mono ?_; rintro e w1 ⟨rfl, hall, hb⟩)
  simp only [World.size_alloc] at hall hb
  have hs1 : w.heap.size + 1 + 1 ≤ w1.heap.size := by have := hb.size; simp at this; exact this
  have HB1 : Hid (Below w.heap.size w w1) := Lib.hid (HB0.out.trans (hb.mono (by omega)))
  have HHB := Lib.hid hb
  have HALL := Lib.hid hall
  clear hall hb ML
  have HBX : Hid (BoxP (w1.heap.size + 1) w1.heap.size (.slice none 0 0) [] (w1.alloc (.cells #[.slice none 0 0] 50))) := ⟨by go_simp, by go_simp, own_nil _ _, by omega⟩
  have HH := Lib.hid (fun W hW => mem_handsB w1.heap.size (w.heap.size + 1 + 1) (ofD st d) w1 HALL.out (.inr (Nat.le_refl _)) W hW)
  gi_wp2
  refine loop_handsM (M := w1.heap.size) (B := w1.heap.size) (w0 := w1) (S := fun xs _ => xs = mlist (ofD st d) 64) (Sp := fun _ => True) (N := 64) rfl (fun _ _ => rfl) (HH.out _ (Bel2.of (Below.refl _ _))) (Bel2.of (bel_alloc (Below.refl _ _))) (by simp) (fun _ => rfl)
    (fun ys W => (∃ v, BoxP (w1.heap.size + 1) w1.heap.size v (butOf (-1) ys) W) ∧ Bel2 w1.heap.size w1.heap.size w1 W ∧ w1.heap.size + 1 ≤ W.heap.size) (fun _ _ => False)
    (fun ys U V h k => ⟨⟨_, h.1.choose_spec.grown k⟩, h.2.1.trans (Bel2.of (k.mono h.2.1.size)), Nat.le_trans h.2.2 k.size⟩)
    (fun ys U l o o' h hl hc hle => ⟨⟨_, h.1.choose_spec.put hl hc⟩, bel2_put h.2.1 (by rw [World.size_alloc] at hle; omega), Nat.le_trans h.2.2 (below_put (U := U) (o := o') (Nat.le_refl l)).size⟩)
    (fun ys U l o o' h => h.elim)
    (fun ys U l o o' h _ _ _ => h)
    ⟨⟨_, HBX.out⟩, Bel2.of (bel_alloc (Below.refl _ _)), by simp⟩
    (fun x U => { tmps := #[.pointer (some ⟨g, 0, none⟩), .int .i64 d, undef, undef, .pointer (some ⟨w.heap.size, 0, none⟩), .pointer (some ⟨w.heap.size + 1, 0, none⟩), .func (.func 44) #[] #[.pointer (some ⟨w.heap.size + 1 + 1, 0, none⟩)], .pointer (some ⟨w1.heap.size, 0, none⟩), undef, .pointer (some ⟨U.heap.size, 0, none⟩), undef, undef, .pointer (some ⟨g, 0, none⟩), .int .i64 d, .func (.func 44) #[] #[.pointer (some ⟨w.heap.size + 1 + 1, 0, none⟩)], .func (.func 44) #[] #[.pointer (some ⟨w.heap.size + 1 + 1, 0, none⟩)], .bool false, .func (.func 44) #[] #[.pointer (some ⟨w.heap.size + 1 + 1, 0, none⟩)], .int .i64 (x.1 : Nat), .agg #[.int .i64 x.2.1, .int .i64 x.2.2.1, .int .i64 x.2.2.2], undef, undef, undef, undef, undef, undef, undef, undef, undef, undef, undef, undef, undef, undef, undef, undef, undef, undef, undef, undef, undef, undef, undef, undef, undef], defers := [] }) (fun x U => U.alloc (.cells #[.int .i64 x.2.1, .int .i64 x.2.2.1, .int .i64 x.2.2.2] 24)) (fun x U => bel_alloc (Below.refl _ _))
    (fun x U0 U => U0.heap.size < U.heap.size ∧ ParamAt U U0.heap.size 0 x.2) (fun x U => ⟨by simp, by rw [cell_new]; rfl, by rw [cell_new]; rfl, by rw [cell_new]; rfl⟩) (fun x U0 U l o o' h hl hc => ⟨by simpa using h.1, h.2.same' (put_same hl hc ⟨.int .i64 x.2.1, h.2.1⟩)⟩) ?takes ?rounds ?all ?some_
  case takes =>
    intro l x W K hK
    unfold outM
    gi_wp2
    exact hK
  case rounds =>
    rintro l pre x U0 W ⟨⟨v, hbox⟩, hB, hsM⟩ ⟨l3, q0, q1, q2⟩ hN
    generalize U0.heap.size = B3 at *
    obtain ⟨i, p⟩ := x
    have hsn := Lib.hid (butOf_snoc (-1) pre (i, p))
    have hle := butOf_le (-1) pre
    have hlen : (butOf (-1) pre).length < 64 := by omega
    have c0 := hbox.cell
    have f0 := hbox.froz
    have HBo := Lib.hid hbox
    have HB := Lib.hid hB
    have hsz := hB.size
    obtain ⟨a, n, c, rfl⟩ := own_slice hbox.own
    simp only [Nat.reduceAdd] at q0 q1 q2
    have l1 : w1.heap.size < W.heap.size := by omega
    have e1 : Hid (butOf (-1) (pre ++ [(i, p)]) = butOf (-1) pre ++ [p]) := by show _ = _; rw [hsn.out, if_neg (show ¬ ((i : Nat) : Int) = -1 by omega)]
    clear hbox hB hle
    refine wpIn_block ?_
    generalize butOf (-1) pre = ps at *
    gi_wp2_with (gi_at_builtin; (refine wpListIn_append_own _ rfl _ _ 50 rfl (w1.heap.size + 1) 24 i0 (.agg #[.int .i64 0, .int .i64 0, .int .i64 0]) 3 24 Try.underlying50 hi hz0 hz1 hz2 rfl (by decide) _ _ _ rfl (HBo.out.own.alloc _) ⟨W.heap.size, 0, none⟩ 1 1 (pcells [p]) rfl rfl (new_row3 p W) (pcells_one _) (by unfold maxLen; omega) (by omega) (by simp; omega) ?_); intro v' w3 hown hgrow _; obtain ⟨a3, n3, c3, rfl, hn3⟩ := own_slice64 hown (by omega); obtain ⟨k3, f3⟩ := app_mid (HBo.out.grown (bel_alloc (Below.refl W.heap.size W))) hgrow; have d3 : decide ((100 : Int) < (n3 : Int)) = false := decide_eq_false (by omega); have HW := Lib.hid hown; have HG := Lib.hid hgrow; clear hown hgrow)
    obtain ⟨h1, h2, h3⟩ := app_end HBo.out (bel_alloc (Below.refl W.heap.size W)) hsM HW.out HG.out
    rw [← e1.out] at h3
    exact ⟨h1.from _, h2.lower (by omega), ⟨_, h3⟩, HB.out.trans (h2.lower (by omega)), Nat.le_trans hsM h2.size⟩
  case some_ =>
    rintro D pre W _ _ h _
    exact h.elim
  case all =>
    rintro D ys W hD rfl ⟨⟨v, hbox⟩, hB, hsM⟩ hK
    have hBW : Below w.heap.size w W := HB1.out.trans (Bel2.below hB (by omega) (by omega))
    have hL := HL.out.below hBW
    have OC := Lib.hid (owed_in hL HO.out hn d HDD.out)
    rw [← HGG.out] at OC
    have hlen : (L.ol d).length = (st.dom d).owed.length := ol_eq HL.out HDD.out
    have hlen2 := HO.out.owed d HDD.out
    have HLS := Lib.hid (fun k (hk : k < (L.ol d).length) => owed_take hk)
    generalize hol : L.ol d = ol at *
    have HOL := Lib.hid hol
    have hol9 : ol.length ≤ 900 := by omega
    rw [HBM.out] at hbox
    have hps : (members st d (-1) 64).length ≤ 64 := members_le _ _ _ _
    generalize hpsE : members st d (-1) 64 = ps at *
    have HPSE := Lib.hid hpsE
    have HQ4 : Hid (w1.cell? ⟨w.heap.size, 0, none⟩ = some (.slice none 0 0)) := (HHB.out.cell (p := ⟨w.heap.size, 0, none⟩) (by simp only; omega)).trans (show _ = some (Value.slice none 0 0) by go_simp)
    have HQ5 : Hid (w1.cell? ⟨w.heap.size + 1, 0, none⟩ = some (.bool false)) := (HHB.out.cell (p := ⟨w.heap.size + 1, 0, none⟩) (by simp only; omega)).trans (show _ = some (Value.bool false) by go_simp)
    have HR4 : Hid (w1.frozen? ⟨w.heap.size, 0, none⟩ = false) := (HHB.out.frozen (p := ⟨w.heap.size, 0, none⟩) (by simp only; omega)).trans (show _ = false by go_simp)
    have HR5 : Hid (w1.frozen? ⟨w.heap.size + 1, 0, none⟩ = false) := (HHB.out.frozen (p := ⟨w.heap.size + 1, 0, none⟩) (by simp only; omega)).trans (show _ = false by go_simp)
    have HBX2 := Lib.hid hbox
    have HB2 := Lib.hid hB
    have HKD := Lib.hid hK
    clear hbox hB hK hL hBW hlen hlen2 hol hpsE
    gi_upto_region 10 with (fail)
    refine wpIn_wide.2 ?_
    go_wp2_with fail
    refine OC.out.mono ?_
    rintro e w5 ⟨v5, rfl, hO5, b5⟩
    obtain ⟨a5, c5, rfl, hrow⟩ := ob_shape hO5
    have HRW := Lib.hid hrow
    have hDlt : D < W.heap.size := (Array.getElem?_eq_some_iff.1 HKD.out).1
    obtain ⟨a0, n0, c0, hv0⟩ := own_slice HBX2.out.own
    subst hv0
    have HC0 : Hid (ChgAt w1.heap.size D w1 W w5 (.slice a0 n0 c0) ps w5) := ⟨HBX2.out.grown b5, HB2.out.trans (Bel2.of (b5.mono HB2.out.size)), (b5.block D hDlt).trans HKD.out, fun b e => .inl (HBX2.out.own.lt b e).2, fun _ _ _ => rfl, Nat.le_refl _, hsM⟩
    have hW5 : W.heap.size ≤ w5.heap.size := b5.size
    clear hO5 hrow b5 HBX2 HB2 HKD
    go_wp2_with fail
    refine wpIn_wide.2 ?_
    go_wp2_with fail
    go_loopg [11] ol.length (fun kx s11 wr => ∃ (k : Nat) (v : Value), s11 = .int .i64 k ∧ k ≤ ol.length ∧ ol.length - k ≤ kx ∧ Hid (ChgAt w1.heap.size D w1 W w5 v (ps ++ (ol.take k).map (·.p)) wr))
    case atStart => exact ⟨0, _, rfl, by omega, by omega, Lib.hid (by simpa using HC0.out)⟩
    case round =>
      clear HC0
      obtain ⟨k, v2, rfl, hk, hkx, HI⟩ := hrel
      have c0 := HI.out.box.cell
      have f0 := HI.out.box.froz
      obtain ⟨a2, n2, c2, rfl⟩ := own_slice HI.out.box.own
      have hs5 := HI.out.s5
      have lM : w1.heap.size < wr.heap.size := by omega
      by_cases hlt : k < ol.length
      · have hltz : (k : Int) < (ol.length : Int) := by omega
        obtain ⟨gb, rfl, hgb, hgb5, hat⟩ := HRW.out k hlt
        obtain ⟨o0, o1, o2, o3, o4⟩ := hat.same (HI.out.same gb hgb hgb5)
        have HT := Lib.hid (HLS.out k hlt)
        generalize ol.getD k default = x at *
        obtain ⟨x1, x2, p1, p2, p3⟩ := x
        simp only at o0 o1 o2 o3 o4 HT
        have lgb : gb < wr.heap.size := by omega
        have hlen : (ps ++ (ol.take k).map (·.p)).length < 965 := by rw [List.length_append, List.length_map, List.length_take]; omega
        have hT2 : Hid (ps ++ (ol.take (k + 1)).map (·.p) = (ps ++ (ol.take k).map (·.p)) ++ [(p1, p2, p3)]) := by show _ = _; rw [HT.out, List.map_append, List.append_assoc]; rfl
        generalize ps ++ (ol.take k).map (·.p) = qs at *
        clear hat HT
        go_wp2_with fail
        refine wp_region_noPanic ?_
        go_region_law (refine step_append_lies _ rfl (.tmp 36) (.tmp 42) 50 rfl (w1.heap.size + 1) 24 i0 (.agg #[.int .i64 0, .int .i64 0, .int .i64 0]) 3 24 Try.underlying50 hi hz0 hz1 hz2 rfl (by decide) (.slice a2 n2 c2) qs.length (pcells qs) rfl (World.ownsRow.alloc (World.ownsRow.drew HI.out.box.own) _) ⟨wr.heap.size, 0, none⟩ 1 1 (pcells [(p1, p2, p3)]) rfl rfl (new_row3 (p1, p2, p3) wr.drew) (pcells_one _) (by omega) (by unfold maxLen; omega) (by omega) (by simp; omega) _ rfl ?_; intro g2 cap2 w11 hown11 hgrow hat hlt2; obtain ⟨k3, f3⟩ := app_mid (HI.out.box.grown (bel_alloc (bel_drew (Below.refl wr.heap.size wr)))) hgrow)
        all_goals
          refine NoPanic.normal ?_
          have HN : Hid (ChgAt w1.heap.size D w1 W w5 (.slice (some ⟨g2, 0, none⟩) (qs.length + 1) cap2) (qs ++ [(p1, p2, p3)]) (w11.setCell ⟨w1.heap.size, 0, none⟩ (.slice (some ⟨g2, 0, none⟩) (qs.length + 1) cap2))) := HI.out.step hW5 hown11 hgrow (hat.imp id (fun e => by rw [e]; simp))
          clear hown11 hgrow hat k3 f3 hlt2
          go_wp2_with fail
          go_roundg (ol.length - (k + 1))
          all_goals first
            | omega
            | exact ⟨k + 1, _, by first | rfl | (congr 1; done) | (congr 1; omega) | (simp; omega), by omega, Nat.le_refl _, by rw [hT2.out]; exact HN.out⟩
      · obtain rfl : k = ol.length := by omega
        have hge : ¬ (ol.length : Int) < (ol.length : Int) := by omega
        have q4 := (World.cell?_of_block (a := ⟨w.heap.size, 0, none⟩) (HI.out.bel.block w.heap.size (by omega) (by omega))).trans HQ4.out
        have q5 := (World.cell?_of_block (a := ⟨w.heap.size + 1, 0, none⟩) (HI.out.bel.block (w.heap.size + 1) (by omega) (by omega))).trans HQ5.out
        have r4 := (World.frozen?_of_block (a := ⟨w.heap.size, 0, none⟩) (HI.out.bel.block w.heap.size (by omega) (by omega))).trans HR4.out
        have r5 := (World.frozen?_of_block (a := ⟨w.heap.size + 1, 0, none⟩) (HI.out.bel.block (w.heap.size + 1) (by omega) (by omega))).trans HR5.out
        have l4 := cell_lt q4
        have l5 := cell_lt q5
        have HII := Lib.hid HI.out
        clear HI
        have hDM : w.heap.size + 1 < D := by have := World.size_alloc w1 (.cells #[.slice none 0 0] 50); omega
        go_wp2_with fail
        first
          | (refine wpIn_wide.2 ?_; go_wp2_with fail)
          | skip
        have hd1 : ((wr.setCell ⟨w.heap.size, 0, none⟩ (.slice a2 n2 c2)).setCell ⟨w.heap.size + 1, 0, none⟩ (.bool true)).heap[D]? = some (.deferred (some [])) :=
          (Below.heap_setCell _ _ _ _ (by show D ≠ w.heap.size + 1; omega)).trans ((Below.heap_setCell _ _ _ _ (by show D ≠ w.heap.size; omega)).trans HII.out.dfr)
        have hK' := run_takeDeferred (P := Try.prog) hd1
        have q4' : ((wr.setCell ⟨w.heap.size, 0, none⟩ (.slice a2 n2 c2)).setCell ⟨w.heap.size + 1, 0, none⟩ (.bool true)).cell? ⟨w.heap.size, 0, none⟩ = some (.slice a2 n2 c2) :=
          (World.cell?_setCell_other _ _ _ _ (fun e => by have := congrArg Addr.block e; simp only at this; omega)).trans (World.cell?_setCell_same _ _ _ q4)
        have q5' : ((wr.setCell ⟨w.heap.size, 0, none⟩ (.slice a2 n2 c2)).setCell ⟨w.heap.size + 1, 0, none⟩ (.bool true)).cell? ⟨w.heap.size + 1, 0, none⟩ = some (.bool true) :=
          World.cell?_setCell_same _ _ _ ((World.cell?_setCell_other _ _ _ _ (fun e => by have := congrArg Addr.block e; simp only at this; omega)).trans q5)
        have e4 := ((put_same (o' := .deferred none) hd1 rfl ⟨_, q4'⟩).cell 0).trans q4'
        have e5 := ((put_same (o' := .deferred none) hd1 rfl ⟨_, q5'⟩).cell 0).trans q5'
        have hown : Owns (((wr.setCell ⟨w.heap.size, 0, none⟩ (.slice a2 n2 c2)).setCell ⟨w.heap.size + 1, 0, none⟩ (.bool true)).putObj D (.deferred none)) w.heap.size (.slice a2 n2 c2) (members st d (-1) 64 ++ (L.ol d).map (·.p)) := by
          have ho := HII.out.box.own
          rw [List.take_length] at ho
          rw [HPSE.out, HOL.out]
          have hlo := ho.lt
          exact own_put (own_same (own_base ho (by omega)) fun b e => by
            have := (hlo b e).1
            exact (Below.heap_setCell _ _ _ _ (by show b ≠ w.heap.size + 1; omega)).trans (Below.heap_setCell _ _ _ _ (by show b ≠ w.heap.size; omega))) hd1 rfl
        have hbel : Below w.heap.size w (((wr.setCell ⟨w.heap.size, 0, none⟩ (.slice a2 n2 c2)).setCell ⟨w.heap.size + 1, 0, none⟩ (.bool true)).putObj D (.deferred none)) :=
          (((HB1.out.trans (Bel2.below HII.out.bel (by omega) (by omega))).setCell (Nat.le_refl _) _).setCell (Nat.le_succ _) _).trans (below_put (by omega))
        refine ⟨by simp, .inl ⟨_, _, rfl, hK', ?_⟩⟩
        refine ⟨.tuple #[.slice a2 n2 c2, .bool true], ?_, ⟨_, rfl, hown, hbel⟩⟩
        rw [results_cc rfl]
        clear hown hbel hK' hd1 q4' q5'
        generalize ((wr.setCell ⟨w.heap.size, 0, none⟩ (.slice a2 n2 c2)).setCell ⟨w.heap.size + 1, 0, none⟩ (.bool true)).putObj D (.deferred none) = WF at *
        go_simp
end Go.Proofs.Ytmcilmmnpolieaa.SeqG
/- A ledger that goes through leave, go and join, with two boxes beside it; what each call answers there. Each theorem's premises are its conditions. -/
namespace Go.Proofs.Ytmcilmmnpolieaa
open Go.ChangeShapes Go.WideShapes Go.ChangeAt Go.RowKit Go.Shelf Go.Deep

/-- the params that charged tells. -/
def chgL (L : Lay) (st : LS) (d : Nat) : List P3 := members st d (-1) 64 ++ (L.ol d).map (·.p)
theorem chgL_perm {w : World} {L : Lay} {st : LS} (h : LAt w L st) {d : Nat} (hd : d < st.nd) : (chgL L st d).Perm (allOf st d (-1)) := all_perm h hd (-1)
theorem chgL_len {w : World} {L : Lay} {st : LS} {n : Nat} (h : LAt w L st) (ho : LOk st n) {d : Nat} (hd : d < st.nd) : (chgL L st d).length ≤ 64 + n := by
  rw [(chgL_perm h hd).length_eq]; exact allOf_le ho hd (-1)
theorem owns_slice {w : World} {B : Nat} {v : Value} {ps : List P3} (h : Owns w B v ps) : ∃ a c, v = .slice a ps.length c := by
  obtain ⟨_, ⟨rfl, h0⟩ | ⟨g, cap, cur, rfl, _⟩⟩ := h
  · exact ⟨none, 0, by rw [h0]⟩
  · exact ⟨_, _, rfl⟩
def RuleAt (w : World) (b : Nat) (hard : Bool) (cap wk : Int) : Prop := w.cell? ⟨b, 0, none⟩ = some (.bool hard) ∧ w.cell? ⟨b, 1, none⟩ = some (.int .i64 cap) ∧ w.cell? ⟨b, 2, none⟩ = some (.int .i64 wk)
structure OwK (w : World) (g b9 b12 : Nat) (hard : Bool) (cap wk : Int) (p : P3) (st : LS) (W : World) (L : Lay) : Prop where
  at_ : LAt W L st
  g : L.g = g
  bel : Below w.heap.size w W
  low : ∀ k, L.role k ≠ none → w.heap.size ≤ k
  o9 : L.role b9 = none
  o12 : L.role b12 = none
  c9 : ParamAt W b9 0 p
  c12 : RuleAt W b12 hard cap wk
section
variable {w W W' : World} {g b9 b12 : Nat} {hard : Bool} {cap wk : Int} {p : P3} {st st' : LS} {L L' : Lay} {n : Nat}
theorem OwK.below (h : OwK w g b9 b12 hard cap wk p st W L) (k : Below W.heap.size W W') : OwK w g b9 b12 hard cap wk p st W' L :=
  ⟨h.at_.below k, h.g, bel_end h.bel k, h.low, h.o9, h.o12, h.c9.same' (k.block b9 (cell_lt h.c9.1)), ⟨(k.cell (cell_lt h.c12.1)).trans h.c12.1, (k.cell (cell_lt h.c12.2.1)).trans h.c12.2.1, (k.cell (cell_lt h.c12.2.2)).trans h.c12.2.2⟩⟩
theorem role_off {w' : World} (hn : Next W L w' L') {b : Nat} (hb : b < W.heap.size) (h : L.role b = none) : L'.role b = none := by
  cases hr : L'.role b with
  | none => rfl
  | some r =>
    rcases hn.role b (by rw [hr]; exact fun e => by cases e) with h1 | h1
    · exact absurd h h1
    · omega
theorem OwK.step (h : OwK w g b9 b12 hard cap wk p st W L) (hn : Next W L W' L') (ha : LAt W' L' st') : OwK w g b9 b12 hard cap wk p st' W' L' := by
  have s9 : Same W W' b9 := hn.only.block b9 (cell_lt h.c9.1) (fun e => e h.o9)
  have s12 : Same W W' b12 := hn.only.block b12 (cell_lt h.c12.1) (fun e => e h.o12)
  refine ⟨ha, hn.g.trans h.g, h.bel.trans ⟨hn.only.os, hn.only.tape, hn.only.output, hn.only.size, fun k hk => hn.only.block k (Nat.lt_of_lt_of_le hk h.bel.size) (fun e => by have := h.low k e; omega)⟩, fun k hk => ?_, role_off hn (cell_lt h.c9.1) h.o9, role_off hn (cell_lt h.c12.1) h.o12, h.c9.same' s9,
    ⟨(s12.cell 0).trans h.c12.1, (s12.cell 1).trans h.c12.2.1, (s12.cell 2).trans h.c12.2.2⟩⟩
  rcases hn.role k hk with h1 | h1
  · exact h.low k h1
  · exact Nat.le_trans h.bel.size h1
theorem ok_charged (h : OwK w g b9 b12 hard cap wk p st W L) (ho : LOk st n) (hn : n ≤ 900) {d : Nat} (hd : d < st.nd) {m : Nat} (hm : (chgL L st d).length = m) : Calls Try.prog 21 #[.pointer (some ⟨g, 0, none⟩), .int .i64 d] W
    fun e w' => ∃ a c, e = .returned (.tuple #[.slice a m c, .bool true]) ∧ ParamRow w' (.slice a m c) (chgL L st d) ∧ OwK w g b9 b12 hard cap wk p st w' L := by
  have C := SeqG.charged_in h.at_ ho hn d hd
  rw [h.g] at C
  refine C.mono ?_
  rintro e w' ⟨v, rfl, hO, hb⟩
  obtain ⟨a, c, rfl⟩ := owns_slice hO
  exact ⟨a, c, by rw [← hm]; rfl, by rw [← hm]; exact (owns_row hO).1, h.below hb⟩
theorem ok_load (h : OwK w g b9 b12 hard cap wk p st W L) {v : Value} {ps : List P3} (hr : ParamRow W v ps) (hl : ps.length ≤ 1000) (hc : RuleMay cap wk) (ha : allMay ps = true) {S M : Nat} (hS : asked hard ps = (S, M)) : Calls Try.prog 22 #[.agg #[.bool hard, .int .i64 cap, .int .i64 wk], v] W
    fun e w' => e = .returned (.tuple #[.int .i64 (S : Nat), .int .i64 (M : Nat), .int .i64 0]) ∧ OwK w g b9 b12 hard cap wk p st w' L := by
  have C := load_any hard cap wk v ps W hr hl
  rw [load_ok hc ha, hS] at C
  exact C.mono fun e w' hh => ⟨hh.1, h.below hh.2⟩
theorem ok_leave (h : OwK w g b9 b12 hard cap wk p st W L) (ho : LOk st n) (hn : n ≤ 60) (id tm : Int) (hr : (leaveS st id tm).2 = 0) : Calls Try.prog 11 #[.pointer (some ⟨g, 0, none⟩), .int .i64 id, .int .i64 tm] W
    fun e w' => e = .returned (.int .i64 0) ∧ ∃ L', OwK w g b9 b12 hard cap wk p (leaveS st id tm).1 w' L' := by
  have C := leave_any h.at_ ho hn id tm
  rw [h.g, hr] at C
  refine C.mono ?_
  rintro e w' ⟨rfl, L', l', n'⟩
  exact ⟨rfl, L', h.step n' l'⟩
theorem ok_go (h : OwK w g b9 b12 hard cap wk p st W L) (ho : LOk st n) (hn : n ≤ 900) (tm : Int) (hr : (goS st tm).2.2 = 0) {y : Int} (hy : (goS st tm).2.1 = y) : Calls Try.prog 13 #[.pointer (some ⟨g, 0, none⟩), .int .i64 tm] W
    fun e w' => e = .returned (.tuple #[.int .i64 y, .int .i64 0]) ∧ ∃ L', OwK w g b9 b12 hard cap wk p (goS st tm).1 w' L' := by
  have C := go_any h.at_ ho hn tm
  rw [h.g, hr, hy] at C
  refine C.mono ?_
  rintro e w' ⟨rfl, L', l', n'⟩
  exact ⟨rfl, L', h.step n' l'⟩
theorem ok_join (h : OwK w g b9 b12 hard cap wk p st W L) (ho : LOk st n) (hn : n ≤ 900) (id d : Int) (hr : (joinS st id d p).2 = 0) : Calls Try.prog 9 #[.pointer (some ⟨g, 0, none⟩), .int .i64 id, .int .i64 d, .agg #[.int .i64 p.1, .int .i64 p.2.1, .int .i64 p.2.2]] W
    fun e w' => e = .returned (.int .i64 0) ∧ ∃ L', OwK w g b9 b12 hard cap wk p (joinS st id d p).1 w' L' := by
  have C := join_any h.at_ ho hn id d p
  rw [h.g, hr] at C
  refine C.mono ?_
  rintro e w' ⟨rfl, L', l', n'⟩
  exact ⟨rfl, L', h.step n' l'⟩
theorem ok_owed (h : OwK w g b9 b12 hard cap wk p st W L) (ho : LOk st n) (hn : n ≤ 900) {d : Nat} (hd : d < st.nd) : Calls Try.prog 18 #[.pointer (some ⟨g, 0, none⟩), .int .i64 d] W
    fun e w' => (∃ a c, e = .returned (.slice a (L.ol d).length c) ∧ ∀ k, k < (L.ol d).length → ∃ gb, a = some ⟨gb, 0, none⟩ ∧ gb < w'.heap.size ∧ OwAt w' gb (k * 5) ((L.ol d).getD k default)) ∧ OwK w g b9 b12 hard cap wk p st w' L := by
  have C := owed_in h.at_ ho hn d hd
  rw [h.g] at C
  refine C.mono ?_
  rintro e w' ⟨v, rfl, hO, hb⟩
  obtain ⟨a, c, rfl, hrow⟩ := SeqG.ob_shape hO
  refine ⟨⟨a, c, rfl, fun k hk => ?_⟩, h.below hb⟩
  obtain ⟨gb, h1, _, h3, h4⟩ := hrow k hk
  exact ⟨gb, h1, h3, h4⟩
/-- one server's params, in a slice of their own. -/
theorem one_row (q : P3) (U : World) : ParamRow (U.alloc (.cells #[.int .i64 q.1, .int .i64 q.2.1, .int .i64 q.2.2] 24)) (.slice (some ⟨U.heap.size, 0, none⟩) 1 1) [q] := by
  refine .inr ⟨U.heap.size, 0, 1, rfl, by simp, by simp, fun j hj => ?_⟩
  have : j = 0 := by simpa using hj
  subst this
  exact ⟨by rw [cell_new]; rfl, by rw [cell_new]; rfl, by rw [cell_new]; rfl⟩
end
end Go.Proofs.Ytmcilmmnpolieaa
/- What the law LedgerPasses keeps as it goes through the domains: the ledger, its own boxes, and the marks of its loops. Each theorem's premises are its conditions. -/
namespace Go.Proofs.Ytmcilmmnpolieaa
open Go.ChangeShapes Go.WideShapes Go.ChangeAt Go.RowKit Go.Shelf Go.Deep

/-! ### the marks of a function's loops over functions -/
def markOf (D : Nat) : Deferred := { target := .collected D, args := #[] }
def shut : List Nat → World → World
  | [], W => W
  | D :: ds, W => shut ds (W.putObj D (.deferred none))
theorem shut_keep : ∀ (ds : List Nat) (W : World) (b : Nat), b ∉ ds → (shut ds W).heap[b]? = W.heap[b]?
  | [], _, _, _ => rfl
  | D :: ds, W, b, h => by
    have h1 : b ≠ D := fun e => h (by rw [e]; exact List.mem_cons_self)
    have h2 : b ∉ ds := fun e => h (List.mem_cons_of_mem _ e)
    exact (shut_keep ds _ b h2).trans (World.putObj_heap_other h1)
theorem shut_rest : ∀ (ds : List Nat) (W : World), (shut ds W).os = W.os ∧ (shut ds W).tape = W.tape ∧ (shut ds W).output = W.output ∧ (shut ds W).heap.size = W.heap.size
  | [], _ => ⟨rfl, rfl, rfl, rfl⟩
  | D :: ds, W => by
    obtain ⟨h1, h2, h3, h4⟩ := shut_rest ds (W.putObj D (.deferred none))
    exact ⟨h1, h2, h3, h4.trans World.putObj_size⟩
theorem leaves_marks {F : Fence} {n : Nat} {P : Program} {fn : Func} {tmps : Array Value} {R : Ending → World → Prop} : ∀ (ds : List Nat) (W : World), ds.Nodup → (∀ D, D ∈ ds → W.heap[D]? = some (.deferred (some []))) →
    LeavesInM F n P fn tmps R [] .returning (shut ds W) → LeavesInM F n P fn tmps R (ds.map markOf) .returning W
  | [], _, _, _, h => h
  | D :: ds, W, hn, hd, h => by
    have hn' := List.nodup_cons.1 hn
    refine ⟨by simp, .inl ⟨D, _, rfl, run_takeDeferred (hd D List.mem_cons_self), ?_⟩⟩
    refine leaves_marks ds _ hn'.2 (fun E hE => ?_) h
    exact (World.putObj_heap_other (fun e => hn'.1 (by rw [← e]; exact hE))).trans (hd E (List.mem_cons_of_mem _ hE))
/-! ### what stays as the law goes on -/
structure Pk (w : World) (g : Nat) (L : Lay) (st : LS) (b2 b3 b4 b5 : Nat) (x4 x5 : Nat → Int) (ds : List Nat) (W : World) : Prop where
  at_ : LAt W L st
  hg : L.g = g
  bel : Below w.heap.size w W
  c2 : W.cell? ⟨b2, 0, none⟩ = some (.bool false)
  f2 : W.frozen? ⟨b2, 0, none⟩ = false
  c3 : W.cell? ⟨b3, 0, none⟩ = some (.pointer (some ⟨g, 0, none⟩))
  c4 : ∀ j, j < 3 → W.cell? ⟨b4, j, none⟩ = some (.int .i64 (x4 j))
  f4 : ∀ o, W.frozen? ⟨b4, o, none⟩ = false
  c5 : ∀ j, j < 64 → W.cell? ⟨b5, j, none⟩ = some (.int .i64 (x5 j))
  f5 : ∀ o, W.frozen? ⟨b5, o, none⟩ = false
  r4 : L.role b4 = none
  r5 : L.role b5 = none
  lo : w.heap.size ≤ b2 ∧ b2 < b3 ∧ b3 < b4 ∧ b4 < b5
  dm : ∀ D, D ∈ ds → W.heap[D]? = some (.deferred (some []))
  dl : ∀ D, D ∈ ds → b5 < D
  dn : ds.Nodup
section
variable {w W W' : World} {g : Nat} {L : Lay} {st : LS} {b2 b3 b4 b5 : Nat} {x4 x5 : Nat → Int} {ds : List Nat}
theorem Pk.lt5 (h : Pk w g L st b2 b3 b4 b5 x4 x5 ds W) : b5 < W.heap.size := cell_lt (h.c5 0 (by omega))
theorem Pk.only {S : Nat → Prop} (h : Pk w g L st b2 b3 b4 b5 x4 x5 ds W) (k : Only W W' S) (hS : ∀ b, S b → b5 < b ∧ L.role b = none ∧ b ∉ ds) : Pk w g L st b2 b3 b4 b5 x4 x5 ds W' := by
  have l5 := h.lt5
  obtain ⟨o1, o2, o3, o4⟩ := h.lo
  have same : ∀ b, b ≤ b5 → Same W W' b := fun b hb => k.block b (by omega) (fun hs => by have := (hS b hs).1; omega)
  exact ⟨h.at_.keep k fun b hb hs => hb (hS b hs).2.1, h.hg, h.bel.trans (k.below (B := w.heap.size) h.bel.size fun b hs => by have := (hS b hs).1; omega), ((same b2 (by omega)).cell 0).trans h.c2, ((same b2 (by omega)).froz 0).trans h.f2, ((same b3 (by omega)).cell 0).trans h.c3,
    fun j hj => ((same b4 (by omega)).cell j).trans (h.c4 j hj), fun o => ((same b4 (by omega)).froz o).trans (h.f4 o), fun j hj => ((same b5 (Nat.le_refl _)).cell j).trans (h.c5 j hj), fun o => ((same b5 (Nat.le_refl _)).froz o).trans (h.f5 o), h.r4, h.r5, h.lo,
    fun D hD => (k.block D (Array.getElem?_eq_some_iff.1 (h.dm D hD)).1 (fun hs => (hS D hs).2.2 hD)).trans (h.dm D hD), h.dl, h.dn⟩
theorem Pk.below (h : Pk w g L st b2 b3 b4 b5 x4 x5 ds W) (k : Below W.heap.size W W') : Pk w g L st b2 b3 b4 b5 x4 x5 ds W' := h.only (S := fun _ => False) (Only.of_below k) (fun _ h => h.elim)
/-- a cell of a block that the law has laid since. -/
theorem Pk.setNew (h : Pk w g L st b2 b3 b4 b5 x4 x5 ds W) {b o : Nat} {u : Value} (hb : b5 < b) (hr : L.role b = none) (hc : W.cell? ⟨b, o, none⟩ = some u) (v : Value) : Pk w g L st b2 b3 b4 b5 x4 x5 ds (W.setCell ⟨b, o, none⟩ v) := by
  refine h.only (S := fun k => k = b) ((Only.refl W (fun k => k = b)).set (a := ⟨b, o, none⟩) (.inl rfl) v) ?_
  rintro k rfl
  refine ⟨hb, hr, fun hd => ?_⟩
  have := h.dm k hd
  simp [World.cell?, this] at hc
theorem Pk.set4 (h : Pk w g L st b2 b3 b4 b5 x4 x5 ds W) {i : Nat} (hi : i < 3) (z : Int) : Pk w g L st b2 b3 b4 b5 (upd x4 i z) x5 ds (W.setCell ⟨b4, i, none⟩ (.int .i64 z)) := by
  obtain ⟨o1, o2, o3, o4⟩ := h.lo
  have same : ∀ b, b ≠ b4 → Same W (W.setCell ⟨b4, i, none⟩ (.int .i64 z)) b := fun b hb => Below.heap_setCell _ _ _ _ hb
  refine ⟨h.at_.keep (S := fun k => k = b4) ((Only.refl W (fun k => k = b4)).set (a := ⟨b4, i, none⟩) (.inl rfl) _) fun b hb hs => hb (by rw [hs]; exact h.r4), h.hg, h.bel.setCell (by show w.heap.size ≤ b4; omega) _, ((same b2 (by omega)).cell 0).trans h.c2, ((same b2 (by omega)).froz 0).trans h.f2, ((same b3 (by omega)).cell 0).trans h.c3,
    fun j hj => ?_, fun o => (World.frozen?_setCell _ _ _ _).trans (h.f4 o), fun j hj => ((same b5 (by omega)).cell j).trans (h.c5 j hj), fun o => ((same b5 (by omega)).froz o).trans (h.f5 o), h.r4, h.r5, h.lo,
    fun D hD => (same D (by have := h.dl D hD; omega)).trans (h.dm D hD), h.dl, h.dn⟩
  by_cases e : j = i
  · subst e; rw [upd_self]; exact World.cell?_setCell_same _ _ _ (h.c4 j hj)
  · rw [upd_ne _ _ _ e, set_other (by omega)]; exact h.c4 j hj
theorem Pk.set5 (h : Pk w g L st b2 b3 b4 b5 x4 x5 ds W) {i : Nat} (hi : i < 64) (z : Int) : Pk w g L st b2 b3 b4 b5 x4 (upd x5 i z) ds (W.setCell ⟨b5, i, none⟩ (.int .i64 z)) := by
  obtain ⟨o1, o2, o3, o4⟩ := h.lo
  have same : ∀ b, b ≠ b5 → Same W (W.setCell ⟨b5, i, none⟩ (.int .i64 z)) b := fun b hb => Below.heap_setCell _ _ _ _ hb
  refine ⟨h.at_.keep (S := fun k => k = b5) ((Only.refl W (fun k => k = b5)).set (a := ⟨b5, i, none⟩) (.inl rfl) _) fun b hb hs => hb (by rw [hs]; exact h.r5), h.hg, h.bel.setCell (by show w.heap.size ≤ b5; omega) _, ((same b2 (by omega)).cell 0).trans h.c2, ((same b2 (by omega)).froz 0).trans h.f2, ((same b3 (by omega)).cell 0).trans h.c3,
    fun j hj => ((same b4 (by omega)).cell j).trans (h.c4 j hj), fun o => ((same b4 (by omega)).froz o).trans (h.f4 o), fun j hj => ?_, fun o => (World.frozen?_setCell _ _ _ _).trans (h.f5 o), h.r4, h.r5, h.lo,
    fun D hD => (same D (by have := h.dl D hD; omega)).trans (h.dm D hD), h.dl, h.dn⟩
  by_cases e : j = i
  · subst e; rw [upd_self]; exact World.cell?_setCell_same _ _ _ (h.c5 j hj)
  · rw [upd_ne _ _ _ e, set_other (by omega)]; exact h.c5 j hj
theorem Pk.mark (h : Pk w g L st b2 b3 b4 b5 x4 x5 ds W) {D : Nat} (hD : W.heap[D]? = some (.deferred (some []))) (hl : b5 < D) (hn : D ∉ ds) : Pk w g L st b2 b3 b4 b5 x4 x5 (D :: ds) W :=
  { h with
    dm := fun E hE => by rcases List.mem_cons.1 hE with rfl | hE; exact hD; exact h.dm E hE
    dl := fun E hE => by rcases List.mem_cons.1 hE with rfl | hE; exact hl; exact h.dl E hE
    dn := List.nodup_cons.2 ⟨hn, h.dn⟩ }
theorem Pk.put (h : Pk w g L st b2 b3 b4 b5 x4 x5 ds W) {l : Nat} (o : Obj) (hl : b5 < l) (hr : L.role l = none) (hn : l ∉ ds) : Pk w g L st b2 b3 b4 b5 x4 x5 ds (W.putObj l o) :=
  h.only (S := fun k => k = l) ⟨rfl, rfl, rfl, by rw [World.putObj_size]; exact Nat.le_refl _, fun k _ hs => World.putObj_heap_other hs⟩ fun b hb => by rw [hb]; exact ⟨hl, hr, hn⟩
theorem Pk.congr (h : Pk w g L st b2 b3 b4 b5 x4 x5 ds W) {y4 y5 : Nat → Int} (h4 : ∀ j, j < 3 → y4 j = x4 j) (h5 : ∀ j, j < 64 → y5 j = x5 j) : Pk w g L st b2 b3 b4 b5 y4 y5 ds W :=
  { h with c4 := fun j hj => by rw [h4 j hj]; exact h.c4 j hj, c5 := fun j hj => by rw [h5 j hj]; exact h.c5 j hj }
theorem Pk.old (h : Pk w g L st b2 b3 b4 b5 x4 x5 ds W) {D : Nat} (hD : W.heap.size ≤ D) : D ∉ ds := fun hd => by
  have := (Array.getElem?_eq_some_iff.1 (h.dm D hd)).1
  omega
end
/-! ### what is counted -/
def cw (st : LS) (k j : Nat) : Int := if st.wk j < k then 1 else 0
def cm (st : LS) (k j : Nat) : Int := match st.srv j with
  | some (d, _) => if d < k then 1 else 0
  | none => 0
theorem cw_succ (st : LS) (k j : Nat) : cw st (k + 1) j = cw st k j + if st.wk j = k then 1 else 0 := by
  unfold cw
  split <;> split <;> split <;> omega
def isIn (st : LS) (k j : Nat) : Bool := match st.srv j with
  | some (d, _) => decide (d = k)
  | none => false
theorem cm_succ (st : LS) (k j : Nat) : cm st (k + 1) j = cm st k j + if isIn st k j = true then 1 else 0 := by
  unfold cm isIn
  cases h : st.srv j with
  | none => simp
  | some s =>
    obtain ⟨d, p⟩ := s
    simp only [decide_eq_true_eq]
    split <;> split <;> split <;> omega
/-- how often a number stands in a list of numbers. -/
def occ (l : List Nat) (j : Nat) : Int := (l.count j : Nat)
theorem occ_nil (j : Nat) : occ [] j = 0 := rfl
theorem occ_snoc (l : List Nat) (x j : Nat) : occ (l ++ [x]) j = occ l j + if x = j then 1 else 0 := by
  unfold occ
  rw [List.count_append, List.count_singleton]
  by_cases h : x = j <;> simp [h]
def wnat (st : LS) (d n : Nat) : List Nat := (List.range n).filter fun i => decide (st.wk i = d)
theorem wof_nat (st : LS) (d n : Nat) : wof st d n = (wnat st d n).map fun (i : Nat) => (i : Int) := by
  unfold wof wnat
  congr 1
  exact List.filter_congr fun i _ => by rw [decide_eq_decide]; omega
theorem wnat_len (st : LS) (d n : Nat) : (wnat st d n).length = (List.range n).countP fun i => decide (st.wk i = d) := by
  unfold wnat; rw [List.countP_eq_length_filter]
theorem wnat_mem {st : LS} {d n x : Nat} (h : x ∈ wnat st d n) : x < n ∧ st.wk x = d := by
  unfold wnat at h
  obtain ⟨h1, h2⟩ := List.mem_filter.1 h
  exact ⟨List.mem_range.1 h1, by simpa using h2⟩
theorem count_range : ∀ (n j : Nat), (List.range n).count j = if j < n then 1 else 0
  | 0, j => by simp
  | n + 1, j => by
    have h3 : List.count j [n] = if n = j then 1 else 0 := by by_cases h : n = j <;> simp [h]
    rw [List.range_succ, List.count_append, count_range n j, h3]
    split <;> split <;> split <;> omega
theorem occ_wnat (st : LS) (d n j : Nat) (hj : j < n) : occ (wnat st d n) j = if st.wk j = d then 1 else 0 := by
  unfold occ wnat
  by_cases h : st.wk j = d
  · rw [List.count_filter (by simpa using h), count_range, if_pos hj, if_pos h]; rfl
  · rw [List.count_eq_zero.2 (fun hm => h (by simpa using (List.mem_filter.1 hm).2)), if_neg h]; rfl
theorem mlist_mem {st : LS} {d n : Nat} {x : Nat × P3} (h : x ∈ SeqG.mlist (ofD st d) n) : x.1 < n ∧ st.srv x.1 = some (d, x.2) := by
  unfold SeqG.mlist at h
  obtain ⟨i, hi, hx⟩ := List.mem_filterMap.1 h
  have hi' := List.mem_range.1 hi
  unfold ofD at hx
  cases hs : st.srv i with
  | none => rw [hs] at hx; simp at hx
  | some s =>
    obtain ⟨d', p'⟩ := s
    rw [hs] at hx
    by_cases e : d' = d
    · subst e
      simp at hx
      subst hx
      exact ⟨hi', hs⟩
    · simp at hx
      omega
theorem mlist_fst (st : LS) (d n : Nat) : (SeqG.mlist (ofD st d) n).map (·.1) = (List.range n).filter fun i => isIn st d i := by
  induction n with
  | zero => rfl
  | succ n ih =>
    rw [SeqG.mlist_succ, List.map_append, ih, List.range_succ, List.filter_append]
    congr 1
    unfold ofD isIn
    cases h : st.srv n with
    | none => simp [h]
    | some s =>
      obtain ⟨d', p'⟩ := s
      by_cases e : d' = d
      · subst e; simp [h]
      · have e2 : ¬ ((d' : Int) = (d : Int)) := by omega
        simp only [if_neg e2, List.map_nil]
        simp [h, e]
theorem occ_mlist (st : LS) (d n j : Nat) (hj : j < n) : occ ((SeqG.mlist (ofD st d) n).map (·.1)) j = if isIn st d j = true then 1 else 0 := by
  rw [mlist_fst]
  unfold occ
  by_cases h : isIn st d j = true
  · rw [List.count_filter h, count_range, if_pos hj, if_pos h]; rfl
  · rw [List.count_eq_zero.2 (fun hm => h (List.mem_filter.1 hm).2), if_neg h]; rfl
end Go.Proofs.Ytmcilmmnpolieaa
/- The law LedgerPasses: its box of the domain's number, and what it is told of each domain. Each theorem's premises are its conditions. -/
namespace Go.Proofs.Ytmcilmmnpolieaa
open Go.ChangeShapes Go.WideShapes Go.ChangeAt Go.RowKit Go.Shelf Go.Deep

structure Pd (w : World) (g : Nat) (L : Lay) (st : LS) (b2 b3 b4 b5 : Nat) (x4 x5 : Nat → Int) (ds : List Nat) (bd : Nat) (k : Int) (W : World) : Prop where
  pk : Pk w g L st b2 b3 b4 b5 x4 x5 ds W
  cd : W.cell? ⟨bd, 0, none⟩ = some (.int .i64 k)
  fd : W.frozen? ⟨bd, 0, none⟩ = false
  ld : b5 < bd
  rd : L.role bd = none
section
variable {w W W' : World} {g : Nat} {L : Lay} {st : LS} {b2 b3 b4 b5 bd : Nat} {x4 x5 : Nat → Int} {ds : List Nat} {k : Int} {n : Nat}
theorem Pd.below (h : Pd w g L st b2 b3 b4 b5 x4 x5 ds bd k W) (j : Below W.heap.size W W') : Pd w g L st b2 b3 b4 b5 x4 x5 ds bd k W' :=
  ⟨h.pk.below j, (j.cell (cell_lt h.cd)).trans h.cd, (j.frozen (cell_lt h.cd)).trans h.fd, h.ld, h.rd⟩
theorem Pd.set4 (h : Pd w g L st b2 b3 b4 b5 x4 x5 ds bd k W) {i : Nat} (hi : i < 3) (z : Int) : Pd w g L st b2 b3 b4 b5 (upd x4 i z) x5 ds bd k (W.setCell ⟨b4, i, none⟩ (.int .i64 z)) := by
  have hl := h.pk.lo
  have hd := h.ld
  have s : Same W (W.setCell ⟨b4, i, none⟩ (.int .i64 z)) bd := Below.heap_setCell _ _ _ _ (by show bd ≠ b4; omega)
  exact ⟨h.pk.set4 hi z, (s.cell 0).trans h.cd, (s.froz 0).trans h.fd, h.ld, h.rd⟩
theorem Pd.set5 (h : Pd w g L st b2 b3 b4 b5 x4 x5 ds bd k W) {i : Nat} (hi : i < 64) (z : Int) : Pd w g L st b2 b3 b4 b5 x4 (upd x5 i z) ds bd k (W.setCell ⟨b5, i, none⟩ (.int .i64 z)) := by
  have hd := h.ld
  have s : Same W (W.setCell ⟨b5, i, none⟩ (.int .i64 z)) bd := Below.heap_setCell _ _ _ _ (by show bd ≠ b5; omega)
  exact ⟨h.pk.set5 hi z, (s.cell 0).trans h.cd, (s.froz 0).trans h.fd, h.ld, h.rd⟩
theorem Pd.put (h : Pd w g L st b2 b3 b4 b5 x4 x5 ds bd k W) {l : Nat} {o o' : Obj} (hl : W.heap[l]? = some o) (hc : o.isCells = false) (h5 : b5 < l) (hr : L.role l = none) (hn : l ∉ ds) : Pd w g L st b2 b3 b4 b5 x4 x5 ds bd k (W.putObj l o') := by
  have s := SeqG.put_same (o' := o') hl hc ⟨_, h.cd⟩
  exact ⟨h.pk.put o' h5 hr hn, (s.cell 0).trans h.cd, (s.froz 0).trans h.fd, h.ld, h.rd⟩
theorem Pd.congr (h : Pd w g L st b2 b3 b4 b5 x4 x5 ds bd k W) {y4 y5 : Nat → Int} (h4 : ∀ j, j < 3 → y4 j = x4 j) (h5 : ∀ j, j < 64 → y5 j = x5 j) : Pd w g L st b2 b3 b4 b5 y4 y5 ds bd k W := { h with pk := h.pk.congr h4 h5 }
theorem Pd.mark (h : Pd w g L st b2 b3 b4 b5 x4 x5 ds bd k W) {D : Nat} (hD : W.heap[D]? = some (.deferred (some []))) (hl : b5 < D) (hn : D ∉ ds) : Pd w g L st b2 b3 b4 b5 x4 x5 (D :: ds) bd k W := { h with pk := h.pk.mark hD hl hn }
theorem Pk.role_none (h : Pk w g L st b2 b3 b4 b5 x4 x5 ds W) {b : Nat} (hb : W.heap.size ≤ b) : L.role b = none := by
  cases hr : L.role b with
  | none => rfl
  | some r => have := role_lt h.at_ hr; omega
/-- the number's new box. -/
theorem Pd.next (h : Pd w g L st b2 b3 b4 b5 x4 x5 ds bd k W) {z : Int} {t : TypeId} (hW : W' = W.alloc (.cells #[.int .i64 z] t)) : Pd w g L st b2 b3 b4 b5 x4 x5 ds W.heap.size z W' := by
  subst hW
  refine ⟨h.pk.below (bel_alloc (Below.refl _ _)), (cell_new _ _ _ _).trans rfl, froz_new _ _ _ _, h.pk.lt5, h.pk.role_none (Nat.le_refl _)⟩
/-- a row of numbers of its own: where its cells lie. -/
theorem wrow_shape {v : Value} {l : List Nat} {B : Nat} (h : W.ownsRow B 3 1 v l.length (ints (l.map fun (i : Nat) => (i : Int)))) : ∃ a c, v = .slice a l.length c ∧ ∀ i, i < l.length → ∃ gb, a = some ⟨gb, 0, none⟩ ∧ B ≤ gb ∧ gb < W.heap.size ∧ W.cell? ⟨gb, i, none⟩ = some (.int .i64 (l.getD i 0 : Nat)) := by
  obtain ⟨hl, ⟨rfl, h0⟩ | ⟨gb, cap, cur, rfl, hB, hg, hn, _, hs, hc⟩⟩ := h
  · exact ⟨none, 0, by rw [h0], fun i hi => by omega⟩
  refine ⟨_, cap, rfl, fun i hi => ⟨gb, rfl, hB, (Array.getElem?_eq_some_iff.1 hg).1, ?_⟩⟩
  have h1 : (ints (l.map fun (i : Nat) => (i : Int)))[i]? = some (.int .i64 (l.getD i 0 : Nat)) := by
    simp [ints, List.getD, hi]
  rw [← hc, List.getElem?_take] at h1
  split at h1
  · simp only [World.cell?, hg]
    simpa using h1
  · cases h1
theorem take_succ_nat {l : List Nat} {i : Nat} (h : i < l.length) : l.take (i + 1) = l.take i ++ [l.getD i 0] := by
  rw [List.take_add_one, List.getElem?_eq_getElem h]
  simp [List.getD, h]
theorem occ_le (l : List Nat) (j : Nat) : 0 ≤ occ l j ∧ occ l j ≤ l.length := by
  unfold occ
  have := List.count_le_length (a := j) (l := l)
  omega
theorem cw_le (st : LS) (k j : Nat) : 0 ≤ cw st k j ∧ cw st k j ≤ 1 := by unfold cw; split <;> omega
theorem cm_le (st : LS) (k j : Nat) : 0 ≤ cm st k j ∧ cm st k j ≤ 1 := by
  unfold cm
  split
  · split <;> omega
  · omega
theorem pd_charged (h : Pd w g L st b2 b3 b4 b5 x4 x5 ds bd k W) (ho : LOk st n) (hn : n ≤ 900) {d : Nat} (hd : d < st.nd) : Calls Try.prog 21 #[.pointer (some ⟨g, 0, none⟩), .int .i64 d] W
    fun e w' => ∃ a m c ps, e = .returned (.tuple #[.slice a m c, .bool true]) ∧ ParamRow w' (.slice a m c) ps ∧ ps.length = m ∧ m ≤ 64 + n ∧ ps.Perm (allOf st d (-1)) ∧ Below W.heap.size W w' := by
  have C := SeqG.charged_in h.pk.at_ ho hn d hd
  rw [h.pk.hg] at C
  refine C.mono ?_
  rintro e w' ⟨v, rfl, hO, hb⟩
  obtain ⟨a, c, rfl⟩ := owns_slice hO
  exact ⟨a, _, c, _, rfl, (owns_row hO).1, rfl, chgL_len h.pk.at_ ho hd, chgL_perm h.pk.at_ hd, hb⟩
end
theorem step_nw (st : LS) (o : LOp) : (stepS st o).1.nw = st.nw := by
  have hj : ∀ (s : LS) (id d : Int) (p : P3), (joinS s id d p).1.nw = s.nw := fun s id d p => by unfold joinS; (repeat' split) <;> rfl
  have hl : ∀ (s : LS) (id tm : Int), (leaveS s id tm).1.nw = s.nw := fun s id tm => by unfold leaveS; (repeat' split) <;> rfl
  unfold stepS
  split
  · exact hj _ _ _ _
  · split
    · unfold changeS; (repeat' split) <;> rfl
    · split
      · exact hl _ _ _
      · split
        · unfold moveS
          split
          · split
            · split
              · split
                · rfl
                · split
                  · exact (hj _ _ _ _).trans (hl _ _ _)
                  · rfl
              · rfl
            · rfl
          · rfl
        · split
          · unfold goS; (repeat' split) <;> rfl
          · split
            · unfold workerS; (repeat' split) <;> rfl
            · unfold domainS; (repeat' split) <;> rfl
theorem run_nw : ∀ (l : List LOp) (st : LS), (runS st l).nw = st.nw
  | [], _ => rfl
  | o :: l, st => (run_nw l (stepS st o).1).trans (step_nw st o)
/-- what the law lays ahead of its loop. -/
theorem pd_start {w w1 : World} {L : Lay} {st : LS} {cs : Array Value} {t0 t1 t2 t3 t4 : TypeId} (l1 : LAt w1 L st) (b1 : Below (w.alloc (.cells #[.bool false] t0)).heap.size (w.alloc (.cells #[.bool false] t0)) w1) (hcs : cs = Array.replicate 64 (.int .i64 0)) :
    Pd w L.g L st w.heap.size w1.heap.size (w1.heap.size + 1) (w1.heap.size + 1 + 1) (cw st 0) (cm st 0) [] (w1.heap.size + 1 + 1 + 1) 0 ((((w1.alloc (.cells #[.pointer (some ⟨L.g, 0, none⟩)] t1)).alloc (.cells (madeCells #[.int .i64 0] 3) t2)).alloc (.cells cs t3)).alloc (.cells #[.int .i64 0] t4)) := by
  have hs := b1.size
  rw [World.size_alloc] at hs
  obtain ⟨W3, hW3⟩ : ∃ W3, W3 = ((w1.alloc (.cells #[.pointer (some ⟨L.g, 0, none⟩)] t1)).alloc (.cells (madeCells #[.int .i64 0] 3) t2)).alloc (.cells cs t3) := ⟨_, rfl⟩
  have hz : W3.heap.size = w1.heap.size + 1 + 1 + 1 := by rw [hW3]; simp
  have hb : Below w1.heap.size w1 W3 := by rw [hW3]; exact bel_alloc (bel_alloc (bel_alloc (Below.refl _ _)))
  have off : ∀ b, w1.heap.size ≤ b → L.role b = none := fun b hb => by
    cases hr : L.role b with
    | none => rfl
    | some r => have := role_lt l1 hr; omega
  have h3 : W3.heap[w1.heap.size]? = some (.cells #[.pointer (some ⟨L.g, 0, none⟩)] t1) := by
    rw [hW3, Below.heap_alloc _ _ _ (by simp <;> omega), Below.heap_alloc _ _ _ (by simp)]
    exact World.alloc_heap_new _ _
  have h4 : W3.heap[w1.heap.size + 1]? = some (.cells (madeCells #[.int .i64 0] 3) t2) := by
    rw [hW3, Below.heap_alloc _ _ _ (by simp)]
    have := World.alloc_heap_new (w1.alloc (.cells #[.pointer (some ⟨L.g, 0, none⟩)] t1)) (.cells (madeCells #[.int .i64 0] 3) t2)
    rwa [World.size_alloc] at this
  have h5 : W3.heap[w1.heap.size + 1 + 1]? = some (.cells cs t3) := by
    rw [hW3]
    have := World.alloc_heap_new ((w1.alloc (.cells #[.pointer (some ⟨L.g, 0, none⟩)] t1)).alloc (.cells (madeCells #[.int .i64 0] 3) t2)) (.cells cs t3)
    rwa [World.size_alloc, World.size_alloc] at this
  have c2 := (hb.cell (p := ⟨w.heap.size, 0, none⟩) (by simp only; omega)).trans ((b1.cell (p := ⟨w.heap.size, 0, none⟩) (by simp)).trans ((cell_new w t0 #[.bool false] 0).trans rfl))
  have f2 := (hb.frozen (p := ⟨w.heap.size, 0, none⟩) (by simp only; omega)).trans ((b1.frozen (p := ⟨w.heap.size, 0, none⟩) (by simp)).trans (froz_new w t0 #[.bool false] 0))
  have K : Pk w L.g L st w.heap.size w1.heap.size (w1.heap.size + 1) (w1.heap.size + 1 + 1) (cw st 0) (cm st 0) [] W3 := by
    refine ⟨l1.below hb, rfl, (bel_end (bel_alloc (Below.refl w.heap.size w)) b1).trans (hb.mono (by omega)), c2, f2, (cell_of_obj h3 0).trans rfl, fun j hj => ?_, froz_of_obj h4, fun j hj => ?_, froz_of_obj h5, off _ (by omega), off _ (by omega), ⟨Nat.le_refl _, by omega, by omega, by omega⟩, (fun D hD => by cases hD), (fun D hD => by cases hD), List.nodup_nil⟩
    · refine (cell_of_obj h4 j).trans ?_
      simp [madeCells, hj, Nat.mod_one, cw]
    · refine (cell_of_obj h5 j).trans ?_
      rw [hcs, Array.getElem?_replicate, if_pos hj]
      unfold cm
      cases st.srv j with
      | none => rfl
      | some s => rfl
  rw [← hW3, ← hz]
  exact ⟨K.below (bel_alloc (Below.refl _ _)), (cell_new _ _ _ _).trans rfl, froz_new _ _ _ _, by omega, off _ (by omega)⟩
end Go.Proofs.Ytmcilmmnpolieaa
/- The law LedgerPasses: its loop over members, and over what is owed. Each theorem's premises are its conditions. -/
namespace Go.Proofs.Ytmcilmmnpolieaa.SeqG
open Go.RowKit Go.Shelf
/-- a loop whose rounds lay nothing: what 'assign' takes stands in the frame. -/
theorem loop_handsU {α : Type} {T : α → Prop} {P : Program} {g : Operand} {ps : Array Tmp} {assign body : Code} {Q : Exit → Act → World → Prop} {a : Act} {w w0 : World} {gf : FuncId} {lb : Array Value} {out : α → Array Value} {M B : Nat} {S : List α → World → Prop} {Sp : List α → Prop} {N : Nat}
    (hg : a.eval g = .func (.func gf) #[] lb) (eg : Enters P gf) (seq : HandsT T M P gf lb out B S Sp N w0) (h0 : Bel2 M B w0 w) (hB : B ≤ w.heap.size) (hps : ∀ x, (out x).size = ps.size)
    (I : List α → World → Prop) (gI : Grows I)
    (pI : ∀ ys U l o o', I ys U → U.heap[l]? = some o → o.isCells = false → w.heap.size ≤ l → I ys (U.putObj l o'))
    (pS : ∀ ys U l o o', S ys U → U.heap[l]? = some o → o.isCells = false → w.heap.size ≤ l → S ys (U.putObj l o'))
    (start : I [] w) (put : α → Array Value → Array Value)
    (takes : ∀ (l : Nat) (x : α) (U : World) (K : Act → World → Prop), K { tmps := put x a.tmps, defers := [] } U → assign.wpIn (Fence.wide.inRound l) 4 P (Exit.then K (fun _ _ _ => False)) { tmps := (ps.zip (out x)).foldl (fun t (p, v) => t.setIfInBounds p v) a.tmps, defers := [] } U)
    (rounds : ∀ (l : Nat) (pre : List α) (x : α) (U : World), I pre U → T x → pre.length < N → body.wpIn (Fence.wide.inRound l) 4 P (EndsM M B w.heap.size I (fun _ _ => False) (pre ++ [x]) U) { tmps := put x a.tmps, defers := [] } U)
    (all : ∀ (D : Nat) (ys : List α) (U : World), w.heap.size ≤ D → S ys U → I ys U → U.heap[D]? = some (.deferred (some [])) → Q .normal { a with defers := { target := .collected D, args := #[] } :: a.defers } U) :
    (Code.rangeFunc g ps assign body).wpIn Fence.wide 6 P Q a w :=
  loop_handsT hg eg seq h0 hB hps I (fun _ _ => False) gI pI (fun _ _ _ _ _ h _ _ _ => h.elim) pS start (fun x _ => { tmps := put x a.tmps, defers := [] }) (fun _ U => U) (fun _ U => Below.refl _ U) (fun _ _ _ => True) (fun _ _ => trivial) (fun _ _ _ _ _ _ _ _ _ => trivial)
    takes (fun l pre x _ U hI hT _ hN => rounds l pre x U hI hT hN) all (fun _ _ _ _ _ h _ => h.elim)
theorem keeps_set {C : Nat} {U V : World} (h : Below U.heap.size U V) (a : Addr) (v : Value) : KeepsFrom C U (V.setCell a v) :=
  ⟨by rw [World.size_setCell]; exact h.size, fun k o _ hk ho => (KeepsOthers.setCell V a v).same k o ((h.block k (Array.getElem?_eq_some_iff.1 hk).1).trans hk) ho⟩
theorem bel2_set {M B : Nat} {U V : World} (h : Below U.heap.size U V) (hB : B ≤ U.heap.size) (o : Nat) (v : Value) : Bel2 M B U (V.setCell ⟨M, o, none⟩ v) :=
  ⟨h.os, h.tape, h.output, by rw [World.size_setCell]; exact h.size, fun k hk hn => (Below.heap_setCell _ _ _ _ hn).trans (h.block k (by omega))⟩
end Go.Proofs.Ytmcilmmnpolieaa.SeqG
namespace Go.Proofs.Ytmcilmmnpolieaa
open Go.ChangeShapes Go.WideShapes Go.ChangeAt Go.RowKit Go.Shelf Go.Deep
section
variable {w W W' : World} {g : Nat} {L : Lay} {st : LS} {b2 b3 b4 b5 bd : Nat} {x4 x5 : Nat → Int} {ds : List Nat} {z : Int} {n k : Nat}
theorem ofD_srv {i : Nat} {p : P3} (h : ofD st (k : Nat) i = some p) : st.srv i = some (k, p) := by
  unfold ofD at h
  cases hs : st.srv i with
  | none => rw [hs] at h; cases h
  | some s =>
    obtain ⟨d', p'⟩ := s
    rw [hs] at h
    by_cases e : d' = k
    · subst e; simp at h; subst h; rfl
    · have e2 : ¬ ((d' : Int) = (k : Int)) := by omega
      simp [e2] at h
/-- how often each server was met: ahead of this domain, and among these. -/
def met (st : LS) (k : Nat) (ys : List SeqG.NP) (j : Nat) : Int := cm st k j + occ (ys.map (·.1)) j
theorem met_nil (j : Nat) : met st k [] j = cm st k j := by simp [met, occ]
theorem met_le (st : LS) (k : Nat) (ys : List SeqG.NP) (j : Nat) (h : ys.length < 64) : 0 ≤ met st k ys j ∧ met st k ys j ≤ 65 := by
  unfold met
  have h1 := cm_le st k j
  have h2 := occ_le (ys.map (·.1)) j
  rw [List.length_map] at h2
  omega
theorem met_snoc (ys : List SeqG.NP) (x : SeqG.NP) (j : Nat) : met st k (ys ++ [x]) j = upd (met st k ys) x.1 (met st k ys x.1 + 1) j := by
  unfold met
  rw [List.map_append, List.map_cons, List.map_nil, occ_snoc]
  by_cases e : j = x.1
  · subst e; rw [upd_self, if_pos rfl]; omega
  · rw [upd_ne _ _ _ e, if_neg (Ne.symm e)]; omega
theorem met_all (j : Nat) (hj : j < 64) : met st k (SeqG.mlist (ofD st k) 64) j = cm st (k + 1) j := by
  unfold met
  rw [occ_mlist st k 64 j hj, cm_succ]
theorem Pd.meet {ys : List SeqG.NP} (h : Pd w g L st b2 b3 b4 b5 x4 (met st k ys) ds bd z W) (x : SeqG.NP) (hx : x.1 < 64) : Pd w g L st b2 b3 b4 b5 x4 (met st k (ys ++ [x])) ds bd z (W.setCell ⟨b5, x.1, none⟩ (.int .i64 (met st k ys x.1 + 1))) :=
  (h.set5 hx _).congr (fun _ _ => rfl) fun j _ => met_snoc ys x j
/-- what is owed lies in order, and ahead of the time. -/
theorem owed_late (h : LAt W L st) (hi : LInv st) {d : Nat} (hd : d < st.nd) {i : Nat} (hl : i < (L.ol d).length) : st.now < ((L.ol d).getD i default).till := by
  refine hi.late d hd _ ((h.dom d hd).perm.mem_iff.1 ?_)
  rw [List.getD_eq_getElem?_getD, List.getElem?_eq_getElem hl]
  exact List.getElem_mem hl
theorem owed_order (h : LAt W L st) {d : Nat} (hd : d < st.nd) {i : Nat} (hl : i + 1 < (L.ol d).length) : ((L.ol d).getD i default).till ≤ ((L.ol d).getD (i + 1) default).till := by
  have hs := (h.dom d hd).sorted
  unfold SortedO at hs
  have := List.pairwise_iff_getElem.1 hs i (i + 1) (by omega) hl (by omega)
  rw [List.getD_eq_getElem?_getD, List.getD_eq_getElem?_getD, List.getElem?_eq_getElem hl, List.getElem?_eq_getElem (show i < (L.ol d).length by omega)]
  simp only [Option.getD_some]
  omega
theorem pd_owed (h : Pd w g L st b2 b3 b4 b5 x4 x5 ds bd z W) (ho : LOk st n) (hn : n ≤ 900) {d : Nat} (hd : d < st.nd) : Calls Try.prog 18 #[.pointer (some ⟨g, 0, none⟩), .int .i64 d] W
    fun e w' => ∃ a c, e = .returned (.slice a (L.ol d).length c) ∧ (∀ i, i < (L.ol d).length → ∃ gb, a = some ⟨gb, 0, none⟩ ∧ b5 < gb ∧ gb < w'.heap.size ∧ OwAt w' gb (i * 5) ((L.ol d).getD i default)) ∧ Below W.heap.size W w' := by
  have C := owed_in h.pk.at_ ho hn d hd
  rw [h.pk.hg] at C
  refine C.mono ?_
  rintro e w' ⟨v, rfl, hO, hb⟩
  obtain ⟨a, c, rfl, hs⟩ := SeqG.ob_shape hO
  refine ⟨a, c, rfl, fun i hi => ?_, hb⟩
  obtain ⟨gb, h1, h2, h3, h4⟩ := hs i hi
  exact ⟨gb, h1, Nat.lt_of_lt_of_le h.pk.lt5 h2, h3, h4⟩
/-- how a round over a member ends. -/
theorem Pd.round {pre : List SeqG.NP} {B : Nat} {W9 : World} (h : Pd w g L st b2 b3 b4 b5 x4 (met st k pre) ds bd z W) (b9 : Below W.heap.size W W9) (hU : B ≤ W.heap.size) (x : SeqG.NP) (hx : x.1 < 64) {a : Act} (o : Obj) :
    SeqG.EndsM b5 B B (fun ys V => Pd w g L st b2 b3 b4 b5 x4 (met st k ys) ds bd z V ∧ B ≤ V.heap.size) (fun _ _ => False) (pre ++ [x]) W .normal a ((W9.setCell ⟨b5, x.1, none⟩ (.int .i64 (met st k pre x.1 + 1))).alloc o) := by
  have hs := b9.size
  refine ⟨(SeqG.keeps_set b9 _ _).trans ((KeepsOthers.alloc _ _).from _), (SeqG.bel2_set b9 hU _ _).trans (SeqG.Bel2.of ((bel_alloc (Below.refl (W9.setCell ⟨b5, x.1, none⟩ (.int .i64 (met st k pre x.1 + 1))).heap.size _)).mono (by rw [World.size_setCell]; omega))), ((h.below b9).meet x hx).below (bel_alloc (Below.refl _ _)), ?_⟩
  rw [World.size_alloc, World.size_setCell]
  omega
/-- the time, read where a region's order is drawn. -/
theorem Pd.now (h : Pd w g L st b2 b3 b4 b5 x4 x5 ds bd z W) : ∀ W', Below W.heap.size W W' → Calls Try.prog 20 #[.pointer (some ⟨g, 0, none⟩)] W' fun e w' => e = .returned (.int .i64 st.now) ∧ w' = W' := fun W' hb => by
  have C := now_any (h.pk.at_.below hb)
  rwa [h.pk.hg] at C
theorem cw_all (ho : LOk st n) {j : Nat} (hj : j < st.nw) : cw st 8 j = 1 := by
  have h1 := ho.wk j hj
  have h2 := ho.nd.2
  unfold cw
  rw [if_pos (by omega)]
theorem results_c {fn : Func} {p : Tmp} {ty : TypeId} (h : fn.results = #[.cell p ty]) (tmps : Array Value) (P : Program) (w : World) :
    (results fn tmps).run P w = ((asAddr (tmps.getD p undef)).run P w).andThen fun a w₁ => (loadVar ty a).run P w₁ := by
  simp only [results, h]
  simp [Sem.run_bind, Result.andThen]
/-- the law has told true, and shuts its marks. -/
theorem Pd.ends (h : Pd w g L st b2 b3 b4 b5 x4 x5 ds bd z W) {m : Nat} {fn : Func} {tmps : Array Value} (hr : fn.results = #[.cell 2 4]) (ht : tmps.getD 2 undef = .pointer (some ⟨b2, 0, none⟩)) :
    LeavesInM Fence.wide m Try.prog fn tmps (Gives (.bool true) w) (ds.map markOf) .returning (W.setCell ⟨b2, 0, none⟩ (.bool true)) := by
  obtain ⟨o1, o2, o3, o4⟩ := h.pk.lo
  have hd : ∀ D, D ∈ ds → (W.setCell ⟨b2, 0, none⟩ (.bool true)).heap[D]? = some (.deferred (some [])) := fun D hD =>
    (Below.heap_setCell _ _ _ _ (by have := h.pk.dl D hD; show D ≠ b2; omega)).trans (h.pk.dm D hD)
  have hn : ∀ b, b ≤ b5 → b ∉ ds := fun b hb hD => by have := h.pk.dl b hD; omega
  have hc : (shut ds (W.setCell ⟨b2, 0, none⟩ (.bool true))).cell? ⟨b2, 0, none⟩ = some (.bool true) :=
    (World.cell?_of_block (shut_keep ds _ b2 (hn b2 (by omega)))).trans (World.cell?_setCell_same _ _ _ h.pk.c2)
  have hb : Below w.heap.size w (shut ds (W.setCell ⟨b2, 0, none⟩ (.bool true))) := by
    have h0 : Below w.heap.size w (W.setCell ⟨b2, 0, none⟩ (.bool true)) := h.pk.bel.setCell (by show w.heap.size ≤ b2; omega) _
    refine h0.trans ?_
    obtain ⟨r1, r2, r3, r4⟩ := shut_rest ds (W.setCell ⟨b2, 0, none⟩ (.bool true))
    exact ⟨r1, r2, r3, by rw [r4]; exact Nat.le_refl _, fun k hk => shut_keep ds _ k (hn k (by omega))⟩
  refine leaves_marks ds _ h.pk.dn hd ?_
  generalize shut ds (W.setCell ⟨b2, 0, none⟩ (.bool true)) = V at *
  refine ⟨.bool true, ?_, rfl, hb⟩
  rw [results_c hr, ht]
  clear hr ht hb hd
  go_simp
end
/-- the law has told true ahead of its loops. -/
theorem ends_first {w W : World} (h : Below (w.alloc (.cells #[.bool false] 4)).heap.size (w.alloc (.cells #[.bool false] 4)) W) {m : Nat} {fn : Func} {tmps : Array Value} (hr : fn.results = #[.cell 2 4]) (ht : tmps.getD 2 undef = .pointer (some ⟨w.heap.size, 0, none⟩)) :
    LeavesInM Fence.wide m Try.prog fn tmps (Gives (.bool true) w) [] .returning (W.setCell ⟨w.heap.size, 0, none⟩ (.bool true)) := by
  have hc : (W.setCell ⟨w.heap.size, 0, none⟩ (.bool true)).cell? ⟨w.heap.size, 0, none⟩ = some (.bool true) :=
    World.cell?_setCell_same _ _ _ (show W.cell? ⟨w.heap.size, 0, none⟩ = some (.bool false) from (h.cell (p := ⟨w.heap.size, 0, none⟩) (by simp)).trans ((cell_new _ _ _ _).trans rfl))
  have hb : Below w.heap.size w (W.setCell ⟨w.heap.size, 0, none⟩ (.bool true)) := (bel_end (bel_alloc (Below.refl w.heap.size w)) h).setCell (Nat.le_refl _) _
  generalize W.setCell ⟨w.heap.size, 0, none⟩ (.bool true) = V at *
  refine ⟨.bool true, ?_, rfl, hb⟩
  rw [results_c hr, ht]
  clear hr ht hb h
  go_simp
end Go.Proofs.Ytmcilmmnpolieaa
/- LedgerPasses answers true at every calls. No condition. -/
namespace Go.Proofs.Ytmcilmmnpolieaa.ledgerPasses
open Go.ChangeShapes Go.WideShapes Go.ChangeAt Go.RowKit Go.Joins Go.Shelf Go.Deep
attribute [local go_sem] Oper.semAt_some

set_option maxRecDepth 1000000 in
set_option maxHeartbeats 40000000 in
theorem few (a : Option Addr) (cap : Nat) (ops : List LOp) (w : World) (hl : ops.length ≤ 60) (hrow : ∀ j, j < ops.length → ∃ b off, a = some ⟨b, off, none⟩ ∧ b < w.heap.size ∧ OpAt w b (off + j * 8) (ops.getD j op0)) : Calls Try.prog 5 #[.slice a ops.length cap] w (Gives (.bool true) w) := by
  have AW := Lib.hid (fun W => awake_any W)
  have hok : LOk (runS (newLS 3) ops) 60 := (run_ok ops (new_ok (n := 3) (by omega))).mono (by omega)
  have hinv : LInv (runS (newLS 3) ops) := run_inv ops (new_inv 3) (new_ok (n := 3) (by omega))
  have HNW : Hid ((runS (newLS 3) ops).nw = 3) := run_nw ops (newLS 3)
  have BG := Lib.hid (fun (W : World) (hW : Below w.heap.size w W) => begun_ok a cap ops W hl (fun j hj => by
    obtain ⟨b, off, h1, h2, h3⟩ := hrow j hj
    exact ⟨b, off, h1, Nat.lt_of_lt_of_le h2 hW.size, fun i hi => (hW.cell (p := ⟨b, off + j * 8 + i, none⟩) h2).trans (h3 i hi)⟩))
  generalize runS (newLS 3) ops = st at *
  generalize ops.length = m0 at *
  have HOK := Lib.hid hok
  have HINV := Lib.hid hinv
  have b0 := bel_alloc (Below.refl w.heap.size w) (o := .cells #[.bool false] 4)
  have HB0 := Lib.hid b0
  clear hok hinv hl hrow b0
  have hmk : ∀ w, (Instr.makeSlice 46 (.int .i64 3) (.int .i64 3)).run Try.prog w = .ok (.slice (some ⟨w.heap.size, 0, none⟩) 3 3) (w.alloc (.cells (madeCells #[.int .i64 0] 3) 3)) := fun w => by
    have h := run_make_row' (P := Try.prog) 46 3 (.int .i64 0) 8 Try.underlying46 infoInt rfl .i64 .i64 3 (by omega) (by omega) w
    simp only [Int.cast_ofNat_Int] at h
    exact h
  refine (callsIn_wide (n := 6)).1 ?_
  refine callsIn_of_wp_marks Try.func5 rfl trivial ?_ rfl
  simp only [Try.ntmps5, List.size_toArray, List.length_cons, List.length_nil, Nat.reduceAdd, Nat.reduceSub, Array.replicate_succ, Array.replicate_zero, List.push_toArray, List.append_toArray, List.nil_append, List.cons_append]
  refine wpIn_wide.2 ?_
  go_wp2_with fail
  refine (BG.out _ HB0.out).mono ?_
  rintro e w1 ⟨⟨L, rfl, l1, r1⟩, b1⟩
  go_wp2_with fail
  have HS : ∀ {cs : Array Value} {t1 t2 t3 t4 : TypeId}, cs = Array.replicate 64 (.int .i64 0) → Hid (Pd w L.g L st w.heap.size w1.heap.size (w1.heap.size + 1) (w1.heap.size + 1 + 1) (cw st 0) (cm st 0) [] (w1.heap.size + 1 + 1 + 1) 0 ((((w1.alloc (.cells #[.pointer (some ⟨L.g, 0, none⟩)] t1)).alloc (.cells (madeCells #[.int .i64 0] 3) t2)).alloc (.cells cs t3)).alloc (.cells #[.int .i64 0] t4))) := fun h => pd_start l1 b1 h
  clear BG l1 r1 b1 HB0 hmk
  obtain ⟨b2, hb2⟩ : ∃ x, w.heap.size = x := ⟨_, rfl⟩
  generalize w1.heap.size + 1 + 1 + 1 = bd0 at *
  generalize w1.heap.size + 1 + 1 = b5 at *
  generalize w1.heap.size + 1 = b4 at *
  generalize w1.heap.size = b3 at *
  generalize L.g = g at *
  rw [hb2] at HS ⊢
  clear hb2
  refine wp_loop_ghost_k (fun k' a' w' => ∃ (dl : List Deferred) (u6 u7 u8 u9 u10 u11 u12 u13 u14 u15 u16 u17 u18 u29 u30 u31 u32 u33 u34 u35 u36 u37 u38 u39 u40 u41 u42 u43 u44 u45 u46 u47 u48 u49 u50 u51 u52 u53 u54 u55 u56 u57 u58 u59 u60 u61 u62 u63 u64 u65 u66 u67 u68 u69 u70 u71 u72 u73 u74 u75 u76 u77 u78 u79 u80 u81 u82 u83 u84 u85 u86 u87 u88 u89 u90 u91 u92 u93 u94 u95 u96 u97 u98 u99 u100 u101 u102 u103 u104 u105 u106 u107 u108 u109 u110 u111 u112 u113 u114 u115 u116 u117 u118 u119 u120 u121 u122 u123 u124 u125 u126 u127 u128 u129 u130 u131 u132 u133 u134 u135 u136 u137 u138 u139 u140 u141 u142 u143 u144 u145 u146 u147 u148 u149 u150 u151 u152 u153 u154 u155 u156 u157 u158 u159 u160 u161 u162 u163 u164 u165 u166 u167 : Value), (∃ (k bd : Nat) (ds : List Nat), u6 = .pointer (some ⟨bd, 0, none⟩) ∧ k ≤ 8 ∧ 8 - k ≤ k' ∧ dl = ds.map markOf ∧ Hid (Pd w g L st b2 b3 b4 b5 (cw st k) (cm st k) ds bd k w')) ∧ a' = { tmps := #[.slice a m0 cap, undef, .pointer (some ⟨b2, 0, none⟩), .pointer (some ⟨b3, 0, none⟩), .slice (some ⟨b4, 0, none⟩) 3 3, .pointer (some ⟨b5, 0, none⟩), u6, u7, u8, u9, u10, u11, u12, u13, u14, u15, u16, u17, u18, undef, .slice a m0 cap, .pointer (some ⟨g, 0, none⟩), .pointer (some ⟨g, 0, none⟩), .bool false, undef, undef, undef, undef, .slice (some ⟨b4, 0, none⟩) 3 3, u29, u30, u31, u32, u33, u34, u35, u36, u37, u38, u39, u40, u41, u42, u43, u44, u45, u46, u47, u48, u49, u50, u51, u52, u53, u54, u55, u56, u57, u58, u59, u60, u61, u62, u63, u64, u65, u66, u67, u68, u69, u70, u71, u72, u73, u74, u75, u76, u77, u78, u79, u80, u81, u82, u83, u84, u85, u86, u87, u88, u89, u90, u91, u92, u93, u94, u95, u96, u97, u98, u99, u100, u101, u102, u103, u104, u105, u106, u107, u108, u109, u110, u111, u112, u113, u114, u115, u116, u117, u118, u119, u120, u121, u122, u123, u124, u125, u126, u127, u128, u129, u130, u131, u132, u133, u134, u135, u136, u137, u138, u139, u140, u141, u142, u143, u144, u145, u146, u147, u148, u149, u150, u151, u152, u153, u154, u155, u156, u157, u158, u159, u160, u161, u162, u163, u164, u165, u166, u167, undef, undef, undef, undef, undef, undef, undef, undef, undef, undef, undef, undef, undef, undef, undef, undef, undef, undef, undef, undef, undef, undef, undef, undef, undef, undef, undef], defers := dl }) 8 ?_ ?_
  · (repeat apply Exists.intro)
    refine ⟨⟨0, bd0, [], rfl, by omega, by omega, rfl, HS rfl⟩, rfl⟩
  · clear HS
    intro gk _ wr hinv
    obtain ⟨dl, hinv⟩ := hinv
    obtain ⟨u6, hinv⟩ := hinv
    obtain ⟨u7, hinv⟩ := hinv
    obtain ⟨u8, hinv⟩ := hinv
    obtain ⟨u9, hinv⟩ := hinv
    obtain ⟨u10, hinv⟩ := hinv
    obtain ⟨u11, hinv⟩ := hinv
    obtain ⟨u12, hinv⟩ := hinv
    obtain ⟨u13, hinv⟩ := hinv
    obtain ⟨u14, hinv⟩ := hinv
    obtain ⟨u15, hinv⟩ := hinv
    obtain ⟨u16, hinv⟩ := hinv
    obtain ⟨u17, hinv⟩ := hinv
    obtain ⟨u18, hinv⟩ := hinv
    obtain ⟨u29, hinv⟩ := hinv
    obtain ⟨u30, hinv⟩ := hinv
    obtain ⟨u31, hinv⟩ := hinv
    obtain ⟨u32, hinv⟩ := hinv
    obtain ⟨u33, hinv⟩ := hinv
    obtain ⟨u34, hinv⟩ := hinv
    obtain ⟨u35, hinv⟩ := hinv
    obtain ⟨u36, hinv⟩ := hinv
    obtain ⟨u37, hinv⟩ := hinv
    obtain ⟨u38, hinv⟩ := hinv
    obtain ⟨u39, hinv⟩ := hinv
    obtain ⟨u40, hinv⟩ := hinv
    obtain ⟨u41, hinv⟩ := hinv
    obtain ⟨u42, hinv⟩ := hinv
    obtain ⟨u43, hinv⟩ := hinv
    obtain ⟨u44, hinv⟩ := hinv
    obtain ⟨u45, hinv⟩ := hinv
    obtain ⟨u46, hinv⟩ := hinv
    obtain ⟨u47, hinv⟩ := hinv
    obtain ⟨u48, hinv⟩ := hinv
    obtain ⟨u49, hinv⟩ := hinv
    obtain ⟨u50, hinv⟩ := hinv
    obtain ⟨u51, hinv⟩ := hinv
    obtain ⟨u52, hinv⟩ := hinv
    obtain ⟨u53, hinv⟩ := hinv
    obtain ⟨u54, hinv⟩ := hinv
    obtain ⟨u55, hinv⟩ := hinv
    obtain ⟨u56, hinv⟩ := hinv
    obtain ⟨u57, hinv⟩ := hinv
    obtain ⟨u58, hinv⟩ := hinv
    obtain ⟨u59, hinv⟩ := hinv
    obtain ⟨u60, hinv⟩ := hinv
    obtain ⟨u61, hinv⟩ := hinv
    obtain ⟨u62, hinv⟩ := hinv
    obtain ⟨u63, hinv⟩ := hinv
    obtain ⟨u64, hinv⟩ := hinv
    obtain ⟨u65, hinv⟩ := hinv
    obtain ⟨u66, hinv⟩ := hinv
    obtain ⟨u67, hinv⟩ := hinv
    obtain ⟨u68, hinv⟩ := hinv
    obtain ⟨u69, hinv⟩ := hinv
    obtain ⟨u70, hinv⟩ := hinv
    obtain ⟨u71, hinv⟩ := hinv
    obtain ⟨u72, hinv⟩ := hinv
    obtain ⟨u73, hinv⟩ := hinv
    obtain ⟨u74, hinv⟩ := hinv
    obtain ⟨u75, hinv⟩ := hinv
    obtain ⟨u76, hinv⟩ := hinv
    obtain ⟨u77, hinv⟩ := hinv
    obtain ⟨u78, hinv⟩ := hinv
    obtain ⟨u79, hinv⟩ := hinv
    obtain ⟨u80, hinv⟩ := hinv
    obtain ⟨u81, hinv⟩ := hinv
    obtain ⟨u82, hinv⟩ := hinv
    obtain ⟨u83, hinv⟩ := hinv
    obtain ⟨u84, hinv⟩ := hinv
    obtain ⟨u85, hinv⟩ := hinv
    obtain ⟨u86, hinv⟩ := hinv
    obtain ⟨u87, hinv⟩ := hinv
    obtain ⟨u88, hinv⟩ := hinv
    obtain ⟨u89, hinv⟩ := hinv
    obtain ⟨u90, hinv⟩ := hinv
    obtain ⟨u91, hinv⟩ := hinv
    obtain ⟨u92, hinv⟩ := hinv
    obtain ⟨u93, hinv⟩ := hinv
    obtain ⟨u94, hinv⟩ := hinv
    obtain ⟨u95, hinv⟩ := hinv
    obtain ⟨u96, hinv⟩ := hinv
    obtain ⟨u97, hinv⟩ := hinv
    obtain ⟨u98, hinv⟩ := hinv
    obtain ⟨u99, hinv⟩ := hinv
    obtain ⟨u100, hinv⟩ := hinv
    obtain ⟨u101, hinv⟩ := hinv
    obtain ⟨u102, hinv⟩ := hinv
    obtain ⟨u103, hinv⟩ := hinv
    obtain ⟨u104, hinv⟩ := hinv
    obtain ⟨u105, hinv⟩ := hinv
    obtain ⟨u106, hinv⟩ := hinv
    obtain ⟨u107, hinv⟩ := hinv
    obtain ⟨u108, hinv⟩ := hinv
    obtain ⟨u109, hinv⟩ := hinv
    obtain ⟨u110, hinv⟩ := hinv
    obtain ⟨u111, hinv⟩ := hinv
    obtain ⟨u112, hinv⟩ := hinv
    obtain ⟨u113, hinv⟩ := hinv
    obtain ⟨u114, hinv⟩ := hinv
    obtain ⟨u115, hinv⟩ := hinv
    obtain ⟨u116, hinv⟩ := hinv
    obtain ⟨u117, hinv⟩ := hinv
    obtain ⟨u118, hinv⟩ := hinv
    obtain ⟨u119, hinv⟩ := hinv
    obtain ⟨u120, hinv⟩ := hinv
    obtain ⟨u121, hinv⟩ := hinv
    obtain ⟨u122, hinv⟩ := hinv
    obtain ⟨u123, hinv⟩ := hinv
    obtain ⟨u124, hinv⟩ := hinv
    obtain ⟨u125, hinv⟩ := hinv
    obtain ⟨u126, hinv⟩ := hinv
    obtain ⟨u127, hinv⟩ := hinv
    obtain ⟨u128, hinv⟩ := hinv
    obtain ⟨u129, hinv⟩ := hinv
    obtain ⟨u130, hinv⟩ := hinv
    obtain ⟨u131, hinv⟩ := hinv
    obtain ⟨u132, hinv⟩ := hinv
    obtain ⟨u133, hinv⟩ := hinv
    obtain ⟨u134, hinv⟩ := hinv
    obtain ⟨u135, hinv⟩ := hinv
    obtain ⟨u136, hinv⟩ := hinv
    obtain ⟨u137, hinv⟩ := hinv
    obtain ⟨u138, hinv⟩ := hinv
    obtain ⟨u139, hinv⟩ := hinv
    obtain ⟨u140, hinv⟩ := hinv
    obtain ⟨u141, hinv⟩ := hinv
    obtain ⟨u142, hinv⟩ := hinv
    obtain ⟨u143, hinv⟩ := hinv
    obtain ⟨u144, hinv⟩ := hinv
    obtain ⟨u145, hinv⟩ := hinv
    obtain ⟨u146, hinv⟩ := hinv
    obtain ⟨u147, hinv⟩ := hinv
    obtain ⟨u148, hinv⟩ := hinv
    obtain ⟨u149, hinv⟩ := hinv
    obtain ⟨u150, hinv⟩ := hinv
    obtain ⟨u151, hinv⟩ := hinv
    obtain ⟨u152, hinv⟩ := hinv
    obtain ⟨u153, hinv⟩ := hinv
    obtain ⟨u154, hinv⟩ := hinv
    obtain ⟨u155, hinv⟩ := hinv
    obtain ⟨u156, hinv⟩ := hinv
    obtain ⟨u157, hinv⟩ := hinv
    obtain ⟨u158, hinv⟩ := hinv
    obtain ⟨u159, hinv⟩ := hinv
    obtain ⟨u160, hinv⟩ := hinv
    obtain ⟨u161, hinv⟩ := hinv
    obtain ⟨u162, hinv⟩ := hinv
    obtain ⟨u163, hinv⟩ := hinv
    obtain ⟨u164, hinv⟩ := hinv
    obtain ⟨u165, hinv⟩ := hinv
    obtain ⟨u166, hinv⟩ := hinv
    obtain ⟨u167, hinv⟩ := hinv
    obtain ⟨hrel, ha⟩ := hinv
    subst ha
    try dsimp only
    intro _ _ _ _
    obtain ⟨k, bd, ds, rfl, hk, hkx, rfl, HR⟩ := hrel
    have q3 := HR.out.pk.c3
    have qd := HR.out.cd
    have gd := HR.out.fd
    have l3 := cell_lt q3
    have ld := cell_lt qd
    by_cases hlt : k < 8
    · have hltz : (k : Int) < 8 := by omega
      by_cases hkn : k < st.nd
      · obtain ⟨hard, hhard⟩ : ∃ x, (st.dom k).hard = x := ⟨_, rfl⟩
        obtain ⟨rcap, hrcap⟩ : ∃ x, (st.dom k).cap = x := ⟨_, rfl⟩
        obtain ⟨wl, hwl⟩ : ∃ x, wnat st k 3 = x := ⟨_, rfl⟩
        have hwk : (st.dom k).wk = ((wl.length : Nat) : Int) := by rw [HOK.out.many k hkn, HNW.out, ← hwl, wnat_len]
        have HTZ : Hid (allOf st k (-1) ≠ [] → testNum hard rcap ((wl.length : Nat) : Int) (allOf st k (-1)) = 0) := fun hne => by
          have := HINV.out.pass k hkn hne
          rwa [hhard, hrcap, hwk] at this
        have RU := Lib.hid (rule_in HR.out.pk.at_ k hkn)
        rw [HR.out.pk.hg, hhard, hrcap, hwk] at RU
        have HWL := Lib.hid hwl
        have hml : wl.length ≤ 3 := by rw [← hwl, wnat_len]; exact Nat.le_trans List.countP_le_length (by simp)
        obtain ⟨ml, hmlq⟩ : ∃ x, wl.length = x := ⟨_, rfl⟩
        rw [hmlq] at RU HTZ hml
        have HMLQ := Lib.hid hmlq
        clear hhard hrcap hwk hwl hmlq
        go_wp2_with fail
        refine RU.out.mono ?_
        rintro e w2 ⟨rfl, b2'⟩
        have HK2 := Lib.hid (HR.out.below b2')
        clear q3 qd gd l3 ld RU b2' HR
        have q3 := HK2.out.pk.c3
        have qd := HK2.out.cd
        have gd := HK2.out.fd
        have l3 := cell_lt q3
        have ld := cell_lt qd
        go_wp2_with fail
        have HK3 := Lib.hid (HK2.out.below (bel_alloc (Below.refl w2.heap.size w2) (o := .cells #[.bool hard, .int .i64 rcap, .int .i64 (ml : Nat)] 41)))
        have HR3 : Hid (RuleAt (w2.alloc (.cells #[.bool hard, .int .i64 rcap, .int .i64 (ml : Nat)] 41)) w2.heap.size hard rcap (ml : Nat)) := ⟨(cell_new _ _ _ _).trans rfl, (cell_new _ _ _ _).trans rfl, (cell_new _ _ _ _).trans rfl⟩
        have CH := Lib.hid (pd_charged HK3.out HOK.out (by omega) hkn)
        clear q3 qd gd l3 ld HK2
        generalize w2.heap.size = b7 at *
        generalize w2.alloc (.cells #[.bool hard, .int .i64 rcap, .int .i64 (ml : Nat)] 41) = w3 at *
        refine CH.out.mono ?_
        rintro e w4 ⟨a9, m9, c9, ps, rfl, hrow9, hpl, hm9, hperm, b4'⟩
        have HK4 := Lib.hid (HK3.out.below b4')
        have HR4 : Hid (RuleAt w4 b7 hard rcap (ml : Nat)) := ⟨(b4'.cell (cell_lt HR3.out.1)).trans HR3.out.1, (b4'.cell (cell_lt HR3.out.2.1)).trans HR3.out.2.1, (b4'.cell (cell_lt HR3.out.2.2)).trans HR3.out.2.2⟩
        have TS : Hid (m9 ≠ 0 → 1 ≤ ml ∧ Calls Try.prog 23 #[.agg #[.bool hard, .int .i64 rcap, .int .i64 (ml : Nat)], .slice a9 m9 c9] w4 (Gives (.int .i64 0) w4)) := fun hm => by
          have hne : allOf st k (-1) ≠ [] := fun hz => hm (by rw [← hpl, hperm.length_eq, hz]; rfl)
          have ht := HTZ.out hne
          have hr := (test_zero2.1 ht).1.2.2.1
          have T := test_any hard rcap (ml : Nat) (.slice a9 m9 c9) ps w4 hrow9 (by omega)
          rw [test_perm hard rcap (ml : Nat) hperm, ht] at T
          exact ⟨by omega, T⟩
        clear hrow9 hpl hperm b4' CH HK3 HR3 HTZ
        have q3 := HK4.out.pk.c3
        have qd := HK4.out.cd
        have gd := HK4.out.fd
        have l3 := cell_lt q3
        have ld := cell_lt qd
        go_upto_region 12 with fail
        go_cut [64] from 47 to 63 (fun s wx => s = .bool false ∧ Below w4.heap.size w4 wx)
        case first =>
          have qr0 := HR4.out.1
          have qr1 := HR4.out.2.1
          have qr2 := HR4.out.2.2
          have lr := cell_lt qr0
          by_cases hm : m9 = 0
          · subst hm
            go_wp2_with fail
            go_meet
            exact ⟨rfl, Below.refl _ _⟩
          · obtain ⟨h1ml, hT⟩ := TS.out hm
            have HT := Lib.hid hT
            have dm1 : decide ((0 : Int) < (m9 : Int)) = true := decide_eq_true (by omega)
            have dm2 : decide (0 < m9) = true := decide_eq_true (by omega)
            have dm3 : decide ((ml : Int) < 1) = false := decide_eq_false (by omega)
            clear hT
            go_wp2_with fail
            refine HT.out.mono ?_
            rintro e w5 ⟨rfl, b5'⟩
            have HB5 := Lib.hid b5'
            clear b5'
            go_wp2_with fail
            go_meet
            exact ⟨rfl, HB5.out⟩
        case rest =>
          obtain ⟨rfl, bc⟩ := hcut
          have HK5 := Lib.hid (HK4.out.below bc)
          have HR5 : Hid (RuleAt wc b7 hard rcap (ml : Nat)) := ⟨(bc.cell (cell_lt HR4.out.1)).trans HR4.out.1, (bc.cell (cell_lt HR4.out.2.1)).trans HR4.out.2.1, (bc.cell (cell_lt HR4.out.2.2)).trans HR4.out.2.2⟩
          have WK := Lib.hid (workers_any HK5.out.pk.at_ HOK.out.nw k)
          rw [HK5.out.pk.hg, HNW.out, wof_nat, HWL.out, List.length_map, HMLQ.out] at WK
          clear q3 qd gd l3 ld HK4 HR4 TS bc
          have q3 := HK5.out.pk.c3
          have qd := HK5.out.cd
          have gd := HK5.out.fd
          have l3 := cell_lt q3
          have ld := cell_lt qd
          go_wp2_with fail
          refine WK.out.mono ?_
          rintro e w6 ⟨a11, c11, rfl, hown, b6⟩
          have HK6 := Lib.hid (HK5.out.below b6)
          have qr2 := (b6.cell (cell_lt HR5.out.2.2)).trans HR5.out.2.2
          have lr := cell_lt qr2
          have hrow11 : ∀ i, i < ml → ∃ gb, a11 = some ⟨gb, 0, none⟩ ∧ b5 < gb ∧ gb < w6.heap.size ∧ w6.cell? ⟨gb, i, none⟩ = some (.int .i64 (wl.getD i 0 : Nat)) := fun i hi => by
            rw [← HMLQ.out] at hown hi
            obtain ⟨a', c', e', hsh⟩ := wrow_shape hown
            cases e'
            obtain ⟨gb, h1, h2, h3, h4⟩ := hsh i hi
            exact ⟨gb, h1, Nat.lt_of_lt_of_le HK5.out.pk.lt5 h2, h3, h4⟩
          have HRW := Lib.hid hrow11
          clear q3 qd gd l3 ld HK5 HR5 WK hown b6 hrow11
          have q3 := HK6.out.pk.c3
          have qd := HK6.out.cd
          have gd := HK6.out.fd
          have l3 := cell_lt q3
          have ld := cell_lt qd
          go_wp2_with fail
          clear qr2 lr
          go_loopg [12] ml (fun kx s12 wr => ∃ (i : Nat) (y4 : Nat → Int), s12 = .int .i64 i ∧ i ≤ ml ∧ ml - i ≤ kx ∧ Hid (Pd w g L st b2 b3 b4 b5 y4 (cm st k) ds bd k wr ∧ (∀ j, j < 3 → y4 j = cw st k j + occ (wl.take i) j) ∧ (∀ b, b5 < b → b < w6.heap.size → Same w6 wr b)))
          case atStart => exact ⟨0, cw st k, rfl, by omega, by omega, HK6.out, fun j _ => by simp [occ], fun _ _ _ => rfl⟩
          case round =>
            clear q3 qd gd l3 ld HK6
            obtain ⟨i, y4, rfl, hi, hix, HI⟩ := hrel
            have q3 := HI.out.1.pk.c3
            have qd := HI.out.1.cd
            have gd := HI.out.1.fd
            have l3 := cell_lt q3
            have ld := cell_lt qd
            by_cases hilt : i < ml
            · have hiltz : (i : Int) < (ml : Int) := by omega
              obtain ⟨gb, rfl, hg5, hg6, hcell⟩ := HRW.out i hilt
              have cr := ((HI.out.2.2 gb hg5 hg6).cell i).trans hcell
              have lgb := cell_lt cr
              have hil : i < wl.length := by rw [HMLQ.out]; exact hilt
              have hxm : wl.getD i 0 ∈ wnat st k 3 := by rw [HWL.out, List.getD_eq_getElem?_getD, List.getElem?_eq_getElem hil]; exact List.getElem_mem hil
              obtain ⟨hx3, hxk⟩ := wnat_mem hxm
              have ht := take_succ_nat hil
              have HT := Lib.hid ht
              generalize wl.getD i 0 = x at *
              have hxz : (x : Int) < 3 := by omega
              have dx1 : decide ((x : Int) < 0) = false := decide_eq_false (by omega)
              have dx2 : decide ((2 : Int) < (x : Int)) = false := decide_eq_false (by omega)
              have cx := HI.out.1.pk.c4 x hx3
              have fx := HI.out.1.pk.f4 x
              have l4 := cell_lt cx
              have hyb : 0 ≤ y4 x ∧ y4 x ≤ 10 := by
                have h1 := HI.out.2.1 x hx3
                have h2 := cw_le st k x
                have h3 := occ_le (wl.take i) x
                have h4 : (wl.take i).length ≤ 3 := by rw [List.length_take]; omega
                omega
              obtain ⟨yx, hyx⟩ : ∃ z, z = y4 x := ⟨_, rfl⟩
              have HN : Hid (Pd w g L st b2 b3 b4 b5 (upd y4 x (yx + 1)) (cm st k) ds bd k (wr.setCell ⟨b4, x, none⟩ (.int .i64 (yx + 1))) ∧ (∀ j, j < 3 → upd y4 x (yx + 1) j = cw st k j + occ (wl.take (i + 1)) j) ∧ (∀ b, b5 < b → b < w6.heap.size → Same w6 (wr.setCell ⟨b4, x, none⟩ (.int .i64 (yx + 1))) b)) := by
                refine ⟨HI.out.1.set4 hx3 _, fun j hj => ?_, fun b hb1 hb2 => ?_⟩
                · rw [HT.out, occ_snoc]
                  have h1 := HI.out.2.1 j hj
                  by_cases e : j = x
                  · subst e; rw [upd_self, if_pos rfl, hyx]; omega
                  · rw [upd_ne _ _ _ e, if_neg (Ne.symm e)]; omega
                · have hlo := HI.out.1.pk.lo
                  exact (show Same wr _ b from Below.heap_setCell _ _ _ _ (by show b ≠ b4; omega)).trans (HI.out.2.2 b hb1 hb2)
              rw [← hyx] at cx hyb
              clear hyx ht hxm hxk hcell hil HI
              go_wp2_with fail
              go_roundg (ml - (i + 1))
              case measure => omega
              case rel => exact ⟨i + 1, _, by first | rfl | (congr 1; done) | (congr 1; omega) | (simp; omega), by omega, Nat.le_refl _, HN.out⟩
            · obtain rfl : i = ml := by omega
              have hige : ¬ (i : Int) < (i : Int) := by omega
              have HK7 : Hid (Pd w g L st b2 b3 b4 b5 (cw st (k + 1)) (cm st k) ds bd k wr) := HI.out.1.congr (fun j hj => by
                have h1 := HI.out.2.1 j hj
                have h2 : wl.take i = wl := by rw [← HMLQ.out]; exact List.take_length
                rw [h2, ← HWL.out, occ_wnat st k 3 j hj] at h1
                rw [h1, cw_succ]) (fun _ _ => rfl)
              have ME := Lib.hid (members_any HK7.out.pk.at_ k)
              rw [HK7.out.pk.hg] at ME
              have hA5 := HK7.out.pk.lt5
              clear q3 qd gd l3 ld HI HRW hix hi
              have q3 := HK7.out.pk.c3
              have qd := HK7.out.cd
              have gd := HK7.out.fd
              have l3 := cell_lt q3
              have ld := cell_lt qd
              go_wp2_with fail
              refine ME.out.mono ?_
              rintro e w8 ⟨rfl, hall, b8⟩
              have HK8 := Lib.hid (HK7.out.below b8)
              have HH := Lib.hid (fun W hW => SeqG.mem_handsC b5 wr.heap.size (ofD st k) w8 hall (.inl hA5) W hW)
              have hs8 := b8.size
              clear q3 qd gd l3 ld HK7 ME hall b8
              generalize wr.heap.size = A8 at *
              have q3 := HK8.out.pk.c3
              have qd := HK8.out.cd
              have gd := HK8.out.fd
              have l3 := cell_lt q3
              have ld := cell_lt qd
              go_wp2_with fail
              refine (wpIn_wide (n := 6)).1 ?_
              refine SeqG.loop_handsU (T := fun x : SeqG.NP => x.1 < 64 ∧ ofD st k x.1 = some x.2) (M := b5) (B := w8.heap.size) (w0 := w8) (S := fun xs _ => xs = SeqG.mlist (ofD st k) 64) (Sp := fun _ => True) (N := 64) rfl (fun _ _ => rfl) (HH.out _ (SeqG.Bel2.of (Below.refl _ _))) (SeqG.Bel2.of (Below.refl _ _)) (Nat.le_refl _) (fun _ => rfl)
                (fun ys W => Pd w g L st b2 b3 b4 b5 (cw st (k + 1)) (met st k ys) ds bd k W ∧ w8.heap.size ≤ W.heap.size) (fun ys U V h b => ⟨h.1.below b, Nat.le_trans h.2 b.size⟩)
                (fun ys U l o o' h hl hc hle => ⟨h.1.put hl hc (Nat.lt_of_lt_of_le HK8.out.pk.lt5 hle) (HK8.out.pk.role_none hle) (HK8.out.pk.old hle), by rw [World.putObj_size]; exact h.2⟩) (fun ys U l o o' h _ _ _ => h)
                ⟨HK8.out.congr (fun _ _ => rfl) (fun j _ => met_nil j), Nat.le_refl _⟩ (fun x t => ((t.setIfInBounds 103 (.int .i64 x.1)).setIfInBounds 104 (.agg #[.int .i64 x.2.1, .int .i64 x.2.2.1, .int .i64 x.2.2.2])).setIfInBounds 13 (.int .i64 x.1)) ?takes ?rounds ?all
              case takes =>
                intro l x U K hK
                unfold SeqG.outM
                gi_wp2
                exact hK
              case rounds =>
                rintro l pre ⟨i1, p⟩ U ⟨hI, hU⟩ ⟨hi64, hof⟩ hN
                have HI := Lib.hid hI
                have hiz : (i1 : Int) < 64 := by omega
                have WS := Lib.hid (where_some hI.pk.at_ i1 hi64 (ofD_srv hof))
                rw [hI.pk.hg] at WS
                have hmb := met_le st k pre i1 hN
                obtain ⟨z1, hz1⟩ : ∃ z, met st k pre i1 = z := ⟨_, rfl⟩
                rw [hz1] at hmb
                have HZ1 := Lib.hid hz1
                simp only at hi64 hof
                clear hI hof hz1 HH q3 qd gd l3 ld
                have q3 := HI.out.pk.c3
                have qd := HI.out.cd
                have gd := HI.out.fd
                have l3 := cell_lt q3
                have ld := cell_lt qd
                refine wpIn_block ?_
                gi_wp2_with (refine ⟨trivial, ?_⟩; gi_at_call 16; refine (CallsIn.inRound l (callsIn_wide.2 WS.out)).mono ?_; rintro e w9 ⟨rfl, b9⟩; have HI9 := Lib.hid (HI.out.below b9); have HB9 := Lib.hid b9; have qd9 := HI9.out.cd; have ld9 := cell_lt qd9; have q59 := HI9.out.pk.c5 i1 hi64; rw [HZ1.out] at q59; have g59 := HI9.out.pk.f5 i1; have l59 := cell_lt q59; clear b9)
                rw [← HZ1.out]
                exact HI.out.round HB9.out hU (i1, p) hi64 _
              case all =>
                rintro D ys U hD rfl ⟨hI, hU⟩ hK
                have HK9 : Hid (Pd w g L st b2 b3 b4 b5 (cw st (k + 1)) (cm st (k + 1)) (D :: ds) bd k U) := (hI.congr (fun _ _ => rfl) (fun j hj => (met_all j hj).symm)).mark hK (Nat.lt_of_lt_of_le HK8.out.pk.lt5 hD) (HK8.out.pk.old hD)
                clear q3 qd gd l3 ld HK8 HH hI hU hK hs8 hA5
                have OWE := Lib.hid (pd_owed HK9.out HOK.out (by omega) hkn)
                have q3 := HK9.out.pk.c3
                have qd := HK9.out.cd
                have gd := HK9.out.fd
                have l3 := cell_lt q3
                have ld := cell_lt qd
                go_wp2_with fail
                refine OWE.out.mono ?_
                rintro e w10 ⟨a17, c17, rfl, hrow17, b10⟩
                have HK10 := Lib.hid (HK9.out.below b10)
                have HRW := Lib.hid hrow17
                have HLT := Lib.hid (fun i (hi : i < (L.ol k).length) => owed_late HK9.out.pk.at_ HINV.out hkn hi)
                have HOR := Lib.hid (fun i (hi : i + 1 < (L.ol k).length) => owed_order HK9.out.pk.at_ hkn hi)
                have hol9 : (L.ol k).length ≤ 900 := by have := ol_eq HK9.out.pk.at_ hkn; have := HOK.out.owed k hkn; omega
                clear q3 qd gd l3 ld HK9 OWE hrow17 b10
                generalize L.ol k = ol at *
                have q3 := HK10.out.pk.c3
                have qd := HK10.out.cd
                have gd := HK10.out.fd
                have l3 := cell_lt q3
                have ld := cell_lt qd
                go_wp2_with fail
                go_loopg [18] ol.length (fun kx s18 wz => ∃ i : Nat, s18 = .int .i64 i ∧ i ≤ ol.length ∧ ol.length - i ≤ kx ∧ Hid (Below w10.heap.size w10 wz))
                case atStart => exact ⟨0, rfl, by omega, by omega, Below.refl _ _⟩
                case round =>
                  clear q3 qd gd l3 ld
                  obtain ⟨i2, rfl, hi2, hix2, HW⟩ := hrel
                  have HK11 := Lib.hid (HK10.out.below HW.out)
                  have q3 := HK11.out.pk.c3
                  have qd := HK11.out.cd
                  have gd := HK11.out.fd
                  have l3 := cell_lt q3
                  have ld := cell_lt qd
                  by_cases hlt2 : i2 < ol.length
                  · have hltz2 : (i2 : Int) < (ol.length : Int) := by omega
                    have NW := Lib.hid HK11.out.now
                    have R0 := Below.refl wr.heap.size wr
                    have hlate := HLT.out i2 hlt2
                    obtain ⟨gb, rfl, hg5, hg10, hat⟩ := HRW.out i2 hlt2
                    have o1 := (hat.same (HW.out.block gb hg10)).2.1
                    have lgb := cell_lt o1
                    cases i2 with
                    | zero =>
                      generalize (ol.getD 0 default).till = tl at *
                      generalize st.now = sn at *
                      have d1 : decide (tl ≤ sn) = false := decide_eq_false (by omega)
                      clear hat
                      go_upto_region 33 with fail
                      go_cut [166] from 141 to 165 (fun s wx => s = .bool false ∧ Below wr.heap.size wr wx)
                      case first =>
                        go_quiet ((go_at_call 20; exact Calls.quiet_of_same (NW.out _ (by first | exact Below.refl _ _ | exact bel_drewN (Below.refl _ _) _))))
                        go_wp2_with fail
                        go_meet
                        exact ⟨rfl, by first | exact R0 | exact bel_drewN R0 _⟩
                      case rest =>
                        obtain ⟨rfl, bc⟩ := hcut
                        have HW2 := Lib.hid (bel_end HW.out bc)
                        clear bc
                        go_wp2_with fail
                        go_roundg (ol.length - (0 + 1))
                        case measure => omega
                        case rel => exact ⟨0 + 1, by first | rfl | (congr 1; done) | (congr 1; omega) | (simp; omega), by omega, Nat.le_refl _, HW2.out⟩
                    | succ j =>
                      obtain ⟨gb2, e2, hg52, hg102, hat2⟩ := HRW.out j (by omega)
                      cases e2
                      have o2 := (hat2.same (HW.out.block gb hg10)).2.1
                      have hord := HOR.out j hlt2
                      generalize (ol.getD j default).till = tj at *
                      generalize (ol.getD (j + 1) default).till = tl at *
                      generalize st.now = sn at *
                      have d1 : decide (tl ≤ sn) = false := decide_eq_false (by omega)
                      have d2 : decide (tl < tj) = false := decide_eq_false (by omega)
                      clear hat hat2
                      go_upto_region 33 with fail
                      go_cut [166] from 141 to 165 (fun s wx => s = .bool false ∧ Below wr.heap.size wr wx)
                      case first =>
                        go_quiet ((go_at_call 20; exact Calls.quiet_of_same (NW.out _ (by first | exact Below.refl _ _ | exact bel_drewN (Below.refl _ _) _))))
                        go_wp2_with fail
                        go_meet
                        exact ⟨rfl, by first | exact R0 | exact bel_drewN R0 _⟩
                      case rest =>
                        obtain ⟨rfl, bc⟩ := hcut
                        have HW2 := Lib.hid (bel_end HW.out bc)
                        clear bc
                        go_wp2_with fail
                        go_roundg (ol.length - ((j + 1) + 1))
                        case measure => omega
                        case rel => exact ⟨(j + 1) + 1, by first | rfl | (congr 1; done) | (congr 1; omega) | (simp; omega), by omega, Nat.le_refl _, HW2.out⟩
                  · obtain rfl : i2 = ol.length := by omega
                    have hgez2 : ¬ (ol.length : Int) < (ol.length : Int) := by omega
                    go_wp2_with fail
                    have HN : Hid (Pd w g L st b2 b3 b4 b5 (cw st (k + 1)) (cm st (k + 1)) (D :: ds) wr.heap.size ((k : Int) + 1) (wr.alloc (.cells #[.int .i64 ((k : Int) + 1)] 3))) := HK11.out.next (z := (k : Int) + 1) (t := 3) rfl
                    go_roundg (8 - (k + 1))
                    case measure => omega
                    case rel => exact ⟨k + 1, wr.heap.size, D :: ds, rfl, by omega, Nat.le_refl _, rfl, HN.out⟩
      · have RU := Lib.hid (rule_out HR.out.pk.at_ HOK.out.nd.1 k (by omega))
        rw [HR.out.pk.hg] at RU
        go_wp2_with fail
        refine RU.out.mono ?_
        rintro e w2 ⟨rfl, b2'⟩
        have HK2 := Lib.hid (HR.out.below b2')
        clear q3 qd gd l3 ld RU b2'
        have q3 := HK2.out.pk.c3
        have qd := HK2.out.cd
        have gd := HK2.out.fd
        have l3 := cell_lt q3
        have ld := cell_lt qd
        go_wp2_with fail
        have hN := (HK2.out.below (bel_alloc (Below.refl w2.heap.size w2) (o := .cells #[.bool false, .int .i64 0, .int .i64 0] 41))).next (z := (k : Int) + 1) (t := 3) rfl
        rw [World.size_alloc] at hN
        have HN : Hid (Pd w g L st b2 b3 b4 b5 (cw st (k + 1)) (cm st (k + 1)) ds (w2.heap.size + 1) ((k : Int) + 1) ((w2.alloc (.cells #[.bool false, .int .i64 0, .int .i64 0] 41)).alloc (.cells #[.int .i64 ((k : Int) + 1)] 3))) := hN.congr (fun j hj => by
            have := HOK.out.wk j (by rw [HNW.out]; exact hj)
            rw [cw_succ, if_neg (by omega)]; omega) (fun j hj => by
            rw [cm_succ, if_neg (fun hin => ?_)]
            · omega
            · unfold isIn at hin
              split at hin
              · rename_i d' p' hs
                have := HOK.out.srv j hj d' p' hs
                simp only [decide_eq_true_eq] at hin
                omega
              · cases hin)
        clear hN
        go_roundg (8 - (k + 1))
        case measure => omega
        case rel => exact ⟨k + 1, w2.heap.size + 1, ds, rfl, by omega, Nat.le_refl _, rfl, HN.out⟩
    · obtain rfl : k = 8 := by omega
      go_wp2_with fail
      go_loopg [19] 64 (fun kx s19 wz => ∃ i : Nat, s19 = .int .i64 i ∧ i ≤ 64 ∧ 64 - i ≤ kx ∧ Hid (Pd w g L st b2 b3 b4 b5 (cw st 8) (cm st 8) ds bd 8 wz))
      case atStart => exact ⟨0, rfl, by omega, by omega, HR.out⟩
      case round =>
        clear q3 qd gd l3 ld HR
        obtain ⟨i3, rfl, hi3, hix3, HJ⟩ := hrel
        by_cases hlt3 : i3 < 64
        · have hltz3 : (i3 : Int) < 64 := by omega
          have q5 := HJ.out.pk.c5 i3 hlt3
          have l5 := cell_lt q5
          have hcm := cm_le st 8 i3
          generalize cm st 8 i3 = y3 at *
          have d3 : decide (1 < y3) = false := decide_eq_false (by omega)
          go_wp2_with fail
          go_roundg (64 - (i3 + 1))
          case measure => omega
          case rel => exact ⟨i3 + 1, by first | rfl | (congr 1; done) | (congr 1; omega) | (simp; omega), by omega, Nat.le_refl _, HJ.out⟩
        · obtain rfl : i3 = 64 := by omega
          have q40 := HJ.out.pk.c4 0 (by omega)
          have q41 := HJ.out.pk.c4 1 (by omega)
          have q42 := HJ.out.pk.c4 2 (by omega)
          rw [cw_all HOK.out (by rw [HNW.out]; omega)] at q40 q41 q42
          have l4 := cell_lt q40
          have AE := Lib.hid (AW.out wr)
          go_wp2_with fail
          refine AE.out.mono ?_
          rintro e w12 ⟨rfl, b12⟩
          have HJ2 := Lib.hid (HJ.out.below b12)
          have q2 := HJ2.out.pk.c2
          have g2 := HJ2.out.pk.f2
          have l2 := cell_lt q2
          clear AE b12 q40 q41 q42 l4
          go_wp2_with fail
          exact HJ2.out.ends rfl rfl
set_option maxRecDepth 1000000 in
set_option maxHeartbeats 4000000 in
theorem many (a : Option Addr) (len cap : Nat) (w : World) (hl : 60 < len) : Calls Try.prog 5 #[.slice a len cap] w (Gives (.bool true) w) := by
  have BF := Lib.hid (fun W => begun_far a len cap W hl)
  have BS := Lib.hid (fun W => begins_any W)
  have AW := Lib.hid (fun W => awake_any W)
  clear hl
  refine (callsIn_wide (n := 6)).1 ?_
  refine callsIn_of_wp_marks Try.func5 rfl trivial ?_ rfl
  simp only [Try.ntmps5, List.size_toArray, List.length_cons, List.length_nil, Nat.reduceAdd, Nat.reduceSub, Array.replicate_succ, Array.replicate_zero, List.push_toArray, List.append_toArray, List.nil_append, List.cons_append]
  refine wpIn_wide.2 ?_
  go_wp2_with fail
  refine (BF.out _).mono ?_
  rintro e w1 ⟨rfl, b1⟩
  have HB1 := Lib.hid b1
  clear b1
  go_wp2_with fail
  refine (BS.out _).mono ?_
  rintro e w3 ⟨rfl, b3⟩
  have HB3 := Lib.hid (bel_end (bel_alloc HB1.out) b3)
  clear b3
  go_wp2_with fail
  refine (AW.out _).mono ?_
  rintro e w5 ⟨rfl, b5⟩
  have HB5 := Lib.hid (bel_end HB3.out b5)
  have c2 := (HB5.out.cell (p := ⟨w.heap.size, 0, none⟩) (by simp)).trans ((cell_new _ _ _ _).trans rfl)
  have f2 := (HB5.out.frozen (p := ⟨w.heap.size, 0, none⟩) (by simp)).trans (froz_new _ _ _ _)
  have l2 := cell_lt c2
  clear b5 HB1 HB3
  go_wp2_with fail
  exact ends_first HB5.out rfl rfl
theorem walk (v : Value) (ops : List LOp) (w : World) (h : OpRow w v ops) : Calls Try.prog 5 #[v] w (Gives (.bool true) w) := by
  obtain ⟨a, cap, rfl, hrow⟩ := oprow_shape h
  by_cases hl : ops.length ≤ 60
  · exact few a cap ops w hl hrow
  · exact many a ops.length cap w (by omega)
set_option maxRecDepth 100000 in
theorem lifted (os : Os) (started : os.Started) (H : Type) (enc : TypeId × Value → H) :
    ReturnsInHanded {} Try.checked os 5 .any (Rows.ledgerPassesSpec.pre6 enc Try.prog Try.f5 Rows.ledgerPassesRow.domain false) (Rows.ledgerPassesSpec.post enc Try.prog Try.f5 false true false false) := by
  refine returnsInHanded_of_change (C := Try.checked) own started (by kernel_rfl) Try.func5
    (ChangeSpec.witness6 (enc := enc) (C := Try.checked) false ⟨#[], #[.slice none 0 0], []⟩ 8 (by kernel_rfl) (by kernel_rfl) (by kernel_rfl) (by kernel_rfl)) ?_
  intro W base args ds gs before hval0 hW hcnd _
  have hval : ∀ (j : Nat) t v, Try.f5.params[j]? = some t → args[j]? = some v → Value.okWide Try.prog W .any base t v := hval0
  have hW' := hW
  obtain ⟨p, q, hA0, hV, _, hfz, hnd⟩ := hW'
  have hA : DataW.TrodAll enc Try.prog W 0 (fun _ => true) true Try.f5.params.toList args.toList ds p := hA0
  rw [Try.params5] at hA hval
  obtain ⟨v0, d0, rfl, _, h0⟩ := trodAll_one hA
  obtain ⟨l, hl, _⟩ := open_ops Try.underlying22 Try.underlying26 (by kernel_rfl) (fun i hi => by match i, hi with | 0, _ => exact ⟨_, rfl, rfl, by kernel_rfl, Try.underlying3⟩ | 1, _ => exact ⟨_, rfl, rfl, by kernel_rfl, Try.underlying3⟩ | 2, _ => exact ⟨_, rfl, rfl, by kernel_rfl, Try.underlying3⟩ | 3, _ => exact ⟨_, rfl, rfl, by kernel_rfl, Try.underlying3⟩) ⟨_, rfl, rfl, by kernel_rfl, Try.underlying24⟩ (fun i hi => by match i, hi with | 0, _ => exact ⟨_, rfl, rfl, by kernel_rfl, Try.underlying3⟩ | 1, _ => exact ⟨_, rfl, rfl, by kernel_rfl, Try.underlying3⟩ | 2, _ => exact ⟨_, rfl, rfl, by kernel_rfl, Try.underlying3⟩) ⟨_, rfl, rfl, by kernel_rfl, Try.underlying4⟩ (hval 0 22 v0 rfl rfl) h0
  refine (walk v0 l W hl).mono fun e W' h => ?_
  exact law_post (f := Try.f5) rfl rfl Try.underlying4 (by kernel_rfl) (fun ds hd => by
    match ds, hd with
    | [_], _ => rfl) hW h

theorem over : Rows.ledgerPassesRow.holds Try.pinned (OpenSpec.ofChange Rows.ledgerPassesSpec) :=
  OpenClaim.holds_of_wide 5 Try.f5 rfl rfl rfl rfl rfl rfl rfl ⟨rfl, rfl, rfl, rfl, rfl⟩ rfl rfl rfl rfl rfl (by kernel_rfl) Try.func5 (by kernel_rfl)
    (of_decide_eq_true (by kernel_rfl)) (by unfold Func.isWrapper; first | (rw [if_pos (by decide +kernel)]; kernel_rfl) | (rw [if_neg (by decide +kernel)]; exact ⟨rfl, rfl⟩))
    (fun os started H enc _ => lifted os started H enc)

/-- THE STATEMENT. -/
theorem proved : Rows.LedgerPassesSaid := over
end Go.Proofs.Ytmcilmmnpolieaa.ledgerPasses
