/- LedgerOwes answers true at every calls, every server and every time. No condition. A ledger that goes through leave, go and join, with two boxes beside it; what each call answers there. What the law's charged tells: the params of all members of a domain, and of what it owes. Each theorem's premises are its conditions; the statement's own theorem has none. -/
import Derived.Test.YtmcilmmnpolieaaO18
import Derived.Test.YtmcilmmnpolieaaO22
import Derived.Test.YtmcilmmnpolieaaO26
import Derived.Test.YtmcilmmnpolieaaO27
import Derived.Test.YtmcilmmnpolieaaO33
import Derived.Deep.RegionLaw
import Derived.Deep.RegionHeld3
import Derived.Sort.CutIn
import Derived.Deep.CutBlock
import Derived.Deep.DeepCutAuto
/- What the law's charged tells: the params of all members of a domain, and of what it owes. Each theorem's premises are its conditions. -/
namespace Go.Proofs.Ytmcilmmnpolieaa.SeqG
open Go.RowKit Go.Shelf Go.Deep
attribute [local go_sem] Oper.semAt_some

theorem Bel2.lower {M B B' : Nat} {U V : World} (h : Bel2 M B U V) (hB : B' ≤ B) : Bel2 M B' U V := ⟨h.os, h.tape, h.output, h.size, fun k hk => h.block k (Nat.lt_of_lt_of_le hk hB)⟩
theorem own_slice64 {U : World} {B e size k : Nat} {v : Value} {xs : List Value} (h : U.ownsRow B e size v k xs) (hk : k ≤ 64) : ∃ a m c, v = .slice a m c ∧ m ≤ 64 := by
  obtain ⟨_, ⟨rfl, _⟩ | ⟨g, cap, cur, rfl, _⟩⟩ := h
  · exact ⟨_, _, _, rfl, by omega⟩
  · exact ⟨_, _, _, rfl, hk⟩
theorem results_cc {fn : Func} {p q : Tmp} {ty tz : TypeId} (h : fn.results = #[.cell p ty, .cell q tz]) (tmps : Array Value) (P : Program) (w : World) :
    (results fn tmps).run P w =
      ((asAddr (tmps.getD p undef)).run P w).andThen fun a w₁ => ((loadVar ty a).run P w₁).andThen fun x w₂ => ((asAddr (tmps.getD q undef)).run P w₂).andThen fun b w₃ => ((loadVar tz b).run P w₃).andThen fun y w₄ => .ok (.tuple #[x, y]) w₄ := by
  simp only [results, h]
  simp [Sem.run_bind, Result.andThen]
theorem ob_shape {w : World} {B : Nat} {v : Value} {l : List Ow} (h : OwnsOB w B v l) : ∃ a cap, v = .slice a l.length cap ∧ ∀ k, k < l.length → ∃ gb, a = some ⟨gb, 0, none⟩ ∧ B ≤ gb ∧ gb < w.heap.size ∧ OwAt w gb (k * 5) (l.getD k default) := by
  rcases owed_shape (own_base h (Nat.zero_le B)) with ⟨e, e0⟩ | ⟨gb, cap, e, hlt, _, _, hat⟩
  · exact ⟨none, 0, by rw [e, e0]; rfl, fun k hk => by rw [e0] at hk; simp at hk⟩
  · exact ⟨_, cap, e, fun k hk => ⟨gb, rfl, (h.lt gb (by rw [e]; rfl)).1, hlt, hat k hk⟩⟩
/-- what holds at the head of charged's second loop. -/
structure ChgAt (M D : Nat) (w1 W w5 : World) (v : Value) (qs : List P3) (wr : World) : Prop where
  box : BoxP (M + 1) M v qs wr
  bel : Bel2 M M w1 wr
  dfr : wr.heap[D]? = some (.deferred (some []))
  own : ∀ b, v.ownBlock = some b → b < W.heap.size ∨ w5.heap.size ≤ b
  same : ∀ b, W.heap.size ≤ b → b < w5.heap.size → Same w5 wr b
  s5 : w5.heap.size ≤ wr.heap.size
  sM : M + 1 ≤ W.heap.size
theorem ChgAt.step {M D : Nat} {w1 W w5 wr w11 : World} {a : Option Addr} {n c g2 cap2 : Nat} {qs : List P3} {p : P3} {o : Obj} (h : ChgAt M D w1 W w5 (.slice a n c) qs wr) (hW5 : W.heap.size ≤ w5.heap.size)
    (ho : w11.ownsRow (M + 1) 24 3 (.slice (some ⟨g2, 0, none⟩) (qs.length + 1) cap2) (qs.length + 1) (pcells qs ++ pcells [p])) (hg : (wr.drew.alloc o).grownBy w11 (Value.slice a n c).ownBlock)
    (hat : (Value.slice a n c).ownBlock = some g2 ∨ wr.heap.size ≤ g2) : ChgAt M D w1 W w5 (.slice (some ⟨g2, 0, none⟩) (qs.length + 1) cap2) (qs ++ [p]) (w11.setCell ⟨M, 0, none⟩ (.slice (some ⟨g2, 0, none⟩) (qs.length + 1) cap2)) := by
  have hsM : M + 1 ≤ wr.heap.size := Nat.le_trans h.sM (Nat.le_trans hW5 h.s5)
  have hs5 := h.s5
  have hsW := h.sM
  obtain ⟨h1, h2, h3⟩ := app_end h.box (bel_alloc (bel_drew (Below.refl wr.heap.size wr)) (o := o)) hsM ho hg
  refine ⟨h3, h.bel.trans (h2.lower (by omega)), h1.same _ _ h.dfr rfl, fun b e => ?_, fun b hb1 hb2 => ?_, Nat.le_trans h.s5 h2.size, h.sM⟩
  · have e' : g2 = b := Option.some.inj e
    subst e'
    rcases hat with h4 | h4
    · exact h.own _ h4
    · exact .inr (by omega)
  · have hne : some b ≠ (Value.slice a n c).ownBlock := fun e => by rcases h.own b e.symm with h4 | h4 <;> omega
    have s1 : Same w11 (w11.setCell ⟨M, 0, none⟩ (.slice (some ⟨g2, 0, none⟩) (qs.length + 1) cap2)) b := Below.heap_setCell _ _ _ _ (by show b ≠ M; omega)
    have s2 : Same wr.drew w11 b := (hg.block b (by simp; omega) hne).trans (Below.heap_alloc _ _ _ (by simp; omega))
    exact s1.trans (s2.trans (h.same b hb1 hb2))
set_option maxRecDepth 100000 in
set_option maxHeartbeats 8000000 in
theorem charged_in {w : World} {L : Lay} {st : LS} {n : Nat} (h : LAt w L st) (ho : LOk st n) (hn : n ≤ 900) (d : Nat) (hd : d < st.nd) :
    Calls Try.prog 21 #[.pointer (some ⟨L.g, 0, none⟩), .int .i64 d] w fun e w' => ∃ v, e = .returned (.tuple #[v, .bool true]) ∧ Owns w' w.heap.size v (members st d (-1) 64 ++ (L.ol d).map (·.p)) ∧ Below w.heap.size w w' := by
  obtain ⟨i0, hi, hz0, hz1, hz2⟩ := info_parts Try.infoParams
  have hB0 := bel_alloc (bel_alloc (Below.refl w.heap.size w) (o := .cells #[.slice none 0 0] 50)) (o := .cells #[.bool false] 4)
  have ML := Lib.hid (callsIn_wide (n := 5).2 (members_any (h.below hB0) d))
  have HL := Lib.hid h
  have HO := Lib.hid ho
  have HBM := Lib.hid (butOf_members st d (-1) 64)
  refine (callsIn_wide (n := 6)).1 ?_
  refine callsIn_of_wp_marks Try.func21 rfl trivial ?_ rfl
  simp only [Try.ntmps21, List.size_toArray, List.length_cons, List.length_nil, Nat.reduceAdd, Nat.reduceSub, Array.replicate_succ, Array.replicate_zero, List.push_toArray, List.append_toArray, List.nil_append, List.cons_append]
  obtain ⟨g, hg⟩ : ∃ g, g = L.g := ⟨_, rfl⟩
  rw [← hg] at ML ⊢
  have HGG := Lib.hid hg
  have HB0 := Lib.hid hB0
  have HDD := Lib.hid hd
  clear h hg hB0 hd ho
  have hq : ∀ W : World, (binOp .eql 61 (.func (.func 44) #[] #[.pointer (some ⟨w.heap.size + 1 + 1, 0, none⟩)]) .nilFunc).run Try.prog W = .ok (.bool false) W := fun _ => rfl
  gi_wp2_with (refine ⟨trivial, ?_⟩; gi_at_call 24; refine ML.out.mono ?_; rintro e w1 ⟨rfl, hall, hb⟩)
  simp only [World.size_alloc] at hall hb
  have hs1 : w.heap.size + 1 + 1 ≤ w1.heap.size := by have := hb.size; simp at this; exact this
  have HB1 : Hid (Below w.heap.size w w1) := Lib.hid (HB0.out.trans (hb.mono (by omega)))
  have HHB := Lib.hid hb
  have HALL := Lib.hid hall
  clear hall hb ML
  have HBX : Hid (BoxP (w1.heap.size + 1) w1.heap.size (.slice none 0 0) [] (w1.alloc (.cells #[.slice none 0 0] 50))) := ⟨by go_simp, by go_simp, own_nil _ _, by omega⟩
  have HH := Lib.hid (fun W hW => mem_handsB w1.heap.size (w.heap.size + 1 + 1) (ofD st d) w1 HALL.out (.inr (Nat.le_refl _)) W hW)
  gi_wp2
  refine loop_handsM (M := w1.heap.size) (B := w1.heap.size) (w0 := w1) (S := fun xs _ => xs = mlist (ofD st d) 64) (Sp := fun _ => True) (N := 64) rfl (fun _ _ => rfl) (HH.out _ (Bel2.of (Below.refl _ _))) (Bel2.of (bel_alloc (Below.refl _ _))) (by simp) (fun _ => rfl)
    (fun ys W => (∃ v, BoxP (w1.heap.size + 1) w1.heap.size v (butOf (-1) ys) W) ∧ Bel2 w1.heap.size w1.heap.size w1 W ∧ w1.heap.size + 1 ≤ W.heap.size) (fun _ _ => False)
    (fun ys U V h k => ⟨⟨_, h.1.choose_spec.grown k⟩, h.2.1.trans (Bel2.of (k.mono h.2.1.size)), Nat.le_trans h.2.2 k.size⟩)
    (fun ys U l o o' h hl hc hle => ⟨⟨_, h.1.choose_spec.put hl hc⟩, bel2_put h.2.1 (by rw [World.size_alloc] at hle; omega), Nat.le_trans h.2.2 (below_put (U := U) (o := o') (Nat.le_refl l)).size⟩)
    (fun ys U l o o' h => h.elim)
    (fun ys U l o o' h _ _ _ => h)
    ⟨⟨_, HBX.out⟩, Bel2.of (bel_alloc (Below.refl _ _)), by simp⟩
    (fun x U => { tmps := #[.pointer (some ⟨g, 0, none⟩), .int .i64 d, undef, undef, .pointer (some ⟨w.heap.size, 0, none⟩), .pointer (some ⟨w.heap.size + 1, 0, none⟩), .func (.func 44) #[] #[.pointer (some ⟨w.heap.size + 1 + 1, 0, none⟩)], .pointer (some ⟨w1.heap.size, 0, none⟩), undef, .pointer (some ⟨U.heap.size, 0, none⟩), undef, undef, .pointer (some ⟨g, 0, none⟩), .int .i64 d, .func (.func 44) #[] #[.pointer (some ⟨w.heap.size + 1 + 1, 0, none⟩)], .func (.func 44) #[] #[.pointer (some ⟨w.heap.size + 1 + 1, 0, none⟩)], .bool false, .func (.func 44) #[] #[.pointer (some ⟨w.heap.size + 1 + 1, 0, none⟩)], .int .i64 (x.1 : Nat), .agg #[.int .i64 x.2.1, .int .i64 x.2.2.1, .int .i64 x.2.2.2], undef, undef, undef, undef, undef, undef, undef, undef, undef, undef, undef, undef, undef, undef, undef, undef, undef, undef, undef, undef, undef, undef, undef, undef, undef], defers := [] }) (fun x U => U.alloc (.cells #[.int .i64 x.2.1, .int .i64 x.2.2.1, .int .i64 x.2.2.2] 24)) (fun x U => bel_alloc (Below.refl _ _))
    (fun x U0 U => U0.heap.size < U.heap.size ∧ ParamAt U U0.heap.size 0 x.2) (fun x U => ⟨by simp, by rw [cell_new]; rfl, by rw [cell_new]; rfl, by rw [cell_new]; rfl⟩) (fun x U0 U l o o' h hl hc => ⟨by simpa using h.1, h.2.same' (put_same hl hc ⟨.int .i64 x.2.1, h.2.1⟩)⟩) ?takes ?rounds ?all ?some_
  case takes =>
    intro l x W K hK
    unfold outM
    gi_wp2
    exact hK
  case rounds =>
    rintro l pre x U0 W ⟨⟨v, hbox⟩, hB, hsM⟩ ⟨l3, q0, q1, q2⟩ hN
    generalize U0.heap.size = B3 at *
    obtain ⟨i, p⟩ := x
    have hsn := Lib.hid (butOf_snoc (-1) pre (i, p))
    have hle := butOf_le (-1) pre
    have hlen : (butOf (-1) pre).length < 64 := by omega
    have c0 := hbox.cell
    have f0 := hbox.froz
    have HBo := Lib.hid hbox
    have HB := Lib.hid hB
    have hsz := hB.size
    obtain ⟨a, n, c, rfl⟩ := own_slice hbox.own
    simp only [Nat.reduceAdd] at q0 q1 q2
    have l1 : w1.heap.size < W.heap.size := by omega
    have e1 : Hid (butOf (-1) (pre ++ [(i, p)]) = butOf (-1) pre ++ [p]) := by show _ = _; rw [hsn.out, if_neg (show ¬ ((i : Nat) : Int) = -1 by omega)]
    clear hbox hB hle
    refine wpIn_block ?_
    generalize butOf (-1) pre = ps at *
    gi_wp2_with (gi_at_builtin; (refine wpListIn_append_own _ rfl _ _ 50 rfl (w1.heap.size + 1) 24 i0 (.agg #[.int .i64 0, .int .i64 0, .int .i64 0]) 3 24 Try.underlying50 hi hz0 hz1 hz2 rfl (by decide) _ _ _ rfl (HBo.out.own.alloc _) ⟨W.heap.size, 0, none⟩ 1 1 (pcells [p]) rfl rfl (new_row3 p W) (pcells_one _) (by unfold maxLen; omega) (by omega) (by simp; omega) ?_); intro v' w3 hown hgrow _; obtain ⟨a3, n3, c3, rfl, hn3⟩ := own_slice64 hown (by omega); obtain ⟨k3, f3⟩ := app_mid (HBo.out.grown (bel_alloc (Below.refl W.heap.size W))) hgrow; have d3 : decide ((100 : Int) < (n3 : Int)) = false := decide_eq_false (by omega); have HW := Lib.hid hown; have HG := Lib.hid hgrow; clear hown hgrow)
    obtain ⟨h1, h2, h3⟩ := app_end HBo.out (bel_alloc (Below.refl W.heap.size W)) hsM HW.out HG.out
    rw [← e1.out] at h3
    exact ⟨h1.from _, h2.lower (by omega), ⟨_, h3⟩, HB.out.trans (h2.lower (by omega)), Nat.le_trans hsM h2.size⟩
  case some_ =>
    rintro D pre W _ _ h _
    exact h.elim
  case all =>
    rintro D ys W hD rfl ⟨⟨v, hbox⟩, hB, hsM⟩ hK
    have hBW : Below w.heap.size w W := HB1.out.trans (Bel2.below hB (by omega) (by omega))
    have hL := HL.out.below hBW
    have OC := Lib.hid (owed_in hL HO.out hn d HDD.out)
    rw [← HGG.out] at OC
    have hlen : (L.ol d).length = (st.dom d).owed.length := ol_eq HL.out HDD.out
    have hlen2 := HO.out.owed d HDD.out
    have HLS := Lib.hid (fun k (hk : k < (L.ol d).length) => owed_take hk)
    generalize hol : L.ol d = ol at *
    have HOL := Lib.hid hol
    have hol9 : ol.length ≤ 900 := by omega
    rw [HBM.out] at hbox
    have hps : (members st d (-1) 64).length ≤ 64 := members_le _ _ _ _
    generalize hpsE : members st d (-1) 64 = ps at *
    have HPSE := Lib.hid hpsE
    have HQ4 : Hid (w1.cell? ⟨w.heap.size, 0, none⟩ = some (.slice none 0 0)) := (HHB.out.cell (p := ⟨w.heap.size, 0, none⟩) (by simp only; omega)).trans (show _ = some (Value.slice none 0 0) by go_simp)
    have HQ5 : Hid (w1.cell? ⟨w.heap.size + 1, 0, none⟩ = some (.bool false)) := (HHB.out.cell (p := ⟨w.heap.size + 1, 0, none⟩) (by simp only; omega)).trans (show _ = some (Value.bool false) by go_simp)
    have HR4 : Hid (w1.frozen? ⟨w.heap.size, 0, none⟩ = false) := (HHB.out.frozen (p := ⟨w.heap.size, 0, none⟩) (by simp only; omega)).trans (show _ = false by go_simp)
    have HR5 : Hid (w1.frozen? ⟨w.heap.size + 1, 0, none⟩ = false) := (HHB.out.frozen (p := ⟨w.heap.size + 1, 0, none⟩) (by simp only; omega)).trans (show _ = false by go_simp)
    have HBX2 := Lib.hid hbox
    have HB2 := Lib.hid hB
    have HKD := Lib.hid hK
    clear hbox hB hK hL hBW hlen hlen2 hol hpsE
    gi_upto_region 10 with (fail)
    refine wpIn_wide.2 ?_
    go_wp2_with fail
    refine OC.out.mono ?_
    rintro e w5 ⟨v5, rfl, hO5, b5⟩
    obtain ⟨a5, c5, rfl, hrow⟩ := ob_shape hO5
    have HRW := Lib.hid hrow
    have hDlt : D < W.heap.size := (Array.getElem?_eq_some_iff.1 HKD.out).1
    obtain ⟨a0, n0, c0, hv0⟩ := own_slice HBX2.out.own
    subst hv0
    have HC0 : Hid (ChgAt w1.heap.size D w1 W w5 (.slice a0 n0 c0) ps w5) := ⟨HBX2.out.grown b5, HB2.out.trans (Bel2.of (b5.mono HB2.out.size)), (b5.block D hDlt).trans HKD.out, fun b e => .inl (HBX2.out.own.lt b e).2, fun _ _ _ => rfl, Nat.le_refl _, hsM⟩
    have hW5 : W.heap.size ≤ w5.heap.size := b5.size
    clear hO5 hrow b5 HBX2 HB2 HKD
    go_wp2_with fail
    refine wpIn_wide.2 ?_
    go_wp2_with fail
    go_loopg [11] ol.length (fun kx s11 wr => ∃ (k : Nat) (v : Value), s11 = .int .i64 k ∧ k ≤ ol.length ∧ ol.length - k ≤ kx ∧ Hid (ChgAt w1.heap.size D w1 W w5 v (ps ++ (ol.take k).map (·.p)) wr))
    case atStart => exact ⟨0, _, rfl, by omega, by omega, Lib.hid (by simpa using HC0.out)⟩
    case round =>
      clear HC0
      obtain ⟨k, v2, rfl, hk, hkx, HI⟩ := hrel
      have c0 := HI.out.box.cell
      have f0 := HI.out.box.froz
      obtain ⟨a2, n2, c2, rfl⟩ := own_slice HI.out.box.own
      have hs5 := HI.out.s5
      have lM : w1.heap.size < wr.heap.size := by omega
      by_cases hlt : k < ol.length
      · have hltz : (k : Int) < (ol.length : Int) := by omega
        obtain ⟨gb, rfl, hgb, hgb5, hat⟩ := HRW.out k hlt
        obtain ⟨o0, o1, o2, o3, o4⟩ := hat.same (HI.out.same gb hgb hgb5)
        have HT := Lib.hid (HLS.out k hlt)
        generalize ol.getD k default = x at *
        obtain ⟨x1, x2, p1, p2, p3⟩ := x
        simp only at o0 o1 o2 o3 o4 HT
        have lgb : gb < wr.heap.size := by omega
        have hlen : (ps ++ (ol.take k).map (·.p)).length < 965 := by rw [List.length_append, List.length_map, List.length_take]; omega
        have hT2 : Hid (ps ++ (ol.take (k + 1)).map (·.p) = (ps ++ (ol.take k).map (·.p)) ++ [(p1, p2, p3)]) := by show _ = _; rw [HT.out, List.map_append, List.append_assoc]; rfl
        generalize ps ++ (ol.take k).map (·.p) = qs at *
        clear hat HT
        go_wp2_with fail
        refine wp_region_noPanic ?_
        go_region_law (refine step_append_lies _ rfl (.tmp 36) (.tmp 42) 50 rfl (w1.heap.size + 1) 24 i0 (.agg #[.int .i64 0, .int .i64 0, .int .i64 0]) 3 24 Try.underlying50 hi hz0 hz1 hz2 rfl (by decide) (.slice a2 n2 c2) qs.length (pcells qs) rfl (World.ownsRow.alloc (World.ownsRow.drew HI.out.box.own) _) ⟨wr.heap.size, 0, none⟩ 1 1 (pcells [(p1, p2, p3)]) rfl rfl (new_row3 (p1, p2, p3) wr.drew) (pcells_one _) (by omega) (by unfold maxLen; omega) (by omega) (by simp; omega) _ rfl ?_; intro g2 cap2 w11 hown11 hgrow hat hlt2; obtain ⟨k3, f3⟩ := app_mid (HI.out.box.grown (bel_alloc (bel_drew (Below.refl wr.heap.size wr)))) hgrow)
        all_goals
          refine NoPanic.normal ?_
          have HN : Hid (ChgAt w1.heap.size D w1 W w5 (.slice (some ⟨g2, 0, none⟩) (qs.length + 1) cap2) (qs ++ [(p1, p2, p3)]) (w11.setCell ⟨w1.heap.size, 0, none⟩ (.slice (some ⟨g2, 0, none⟩) (qs.length + 1) cap2))) := HI.out.step hW5 hown11 hgrow (hat.imp id (fun e => by rw [e]; simp))
          clear hown11 hgrow hat k3 f3 hlt2
          go_wp2_with fail
          go_roundg (ol.length - (k + 1))
          all_goals first
            | omega
            | exact ⟨k + 1, _, by first | rfl | (congr 1; done) | (congr 1; omega) | (simp; omega), by omega, Nat.le_refl _, by rw [hT2.out]; exact HN.out⟩
      · obtain rfl : k = ol.length := by omega
        have hge : ¬ (ol.length : Int) < (ol.length : Int) := by omega
        have q4 := (World.cell?_of_block (a := ⟨w.heap.size, 0, none⟩) (HI.out.bel.block w.heap.size (by omega) (by omega))).trans HQ4.out
        have q5 := (World.cell?_of_block (a := ⟨w.heap.size + 1, 0, none⟩) (HI.out.bel.block (w.heap.size + 1) (by omega) (by omega))).trans HQ5.out
        have r4 := (World.frozen?_of_block (a := ⟨w.heap.size, 0, none⟩) (HI.out.bel.block w.heap.size (by omega) (by omega))).trans HR4.out
        have r5 := (World.frozen?_of_block (a := ⟨w.heap.size + 1, 0, none⟩) (HI.out.bel.block (w.heap.size + 1) (by omega) (by omega))).trans HR5.out
        have l4 := cell_lt q4
        have l5 := cell_lt q5
        have HII := Lib.hid HI.out
        clear HI
        have hDM : w.heap.size + 1 < D := by have := World.size_alloc w1 (.cells #[.slice none 0 0] 50); omega
        go_wp2_with fail
        first
          | (refine wpIn_wide.2 ?_; go_wp2_with fail)
          | skip
        have hd1 : ((wr.setCell ⟨w.heap.size, 0, none⟩ (.slice a2 n2 c2)).setCell ⟨w.heap.size + 1, 0, none⟩ (.bool true)).heap[D]? = some (.deferred (some [])) :=
          (Below.heap_setCell _ _ _ _ (by show D ≠ w.heap.size + 1; omega)).trans ((Below.heap_setCell _ _ _ _ (by show D ≠ w.heap.size; omega)).trans HII.out.dfr)
        have hK' := run_takeDeferred (P := Try.prog) hd1
        have q4' : ((wr.setCell ⟨w.heap.size, 0, none⟩ (.slice a2 n2 c2)).setCell ⟨w.heap.size + 1, 0, none⟩ (.bool true)).cell? ⟨w.heap.size, 0, none⟩ = some (.slice a2 n2 c2) :=
          (World.cell?_setCell_other _ _ _ _ (fun e => by have := congrArg Addr.block e; simp only at this; omega)).trans (World.cell?_setCell_same _ _ _ q4)
        have q5' : ((wr.setCell ⟨w.heap.size, 0, none⟩ (.slice a2 n2 c2)).setCell ⟨w.heap.size + 1, 0, none⟩ (.bool true)).cell? ⟨w.heap.size + 1, 0, none⟩ = some (.bool true) :=
          World.cell?_setCell_same _ _ _ ((World.cell?_setCell_other _ _ _ _ (fun e => by have := congrArg Addr.block e; simp only at this; omega)).trans q5)
        have e4 := ((put_same (o' := .deferred none) hd1 rfl ⟨_, q4'⟩).cell 0).trans q4'
        have e5 := ((put_same (o' := .deferred none) hd1 rfl ⟨_, q5'⟩).cell 0).trans q5'
        have hown : Owns (((wr.setCell ⟨w.heap.size, 0, none⟩ (.slice a2 n2 c2)).setCell ⟨w.heap.size + 1, 0, none⟩ (.bool true)).putObj D (.deferred none)) w.heap.size (.slice a2 n2 c2) (members st d (-1) 64 ++ (L.ol d).map (·.p)) := by
          have ho := HII.out.box.own
          rw [List.take_length] at ho
          rw [HPSE.out, HOL.out]
          have hlo := ho.lt
          exact own_put (own_same (own_base ho (by omega)) fun b e => by
            have := (hlo b e).1
            exact (Below.heap_setCell _ _ _ _ (by show b ≠ w.heap.size + 1; omega)).trans (Below.heap_setCell _ _ _ _ (by show b ≠ w.heap.size; omega))) hd1 rfl
        have hbel : Below w.heap.size w (((wr.setCell ⟨w.heap.size, 0, none⟩ (.slice a2 n2 c2)).setCell ⟨w.heap.size + 1, 0, none⟩ (.bool true)).putObj D (.deferred none)) :=
          (((HB1.out.trans (Bel2.below HII.out.bel (by omega) (by omega))).setCell (Nat.le_refl _) _).setCell (Nat.le_succ _) _).trans (below_put (by omega))
        refine ⟨by simp, .inl ⟨_, _, rfl, hK', ?_⟩⟩
        refine ⟨.tuple #[.slice a2 n2 c2, .bool true], ?_, ⟨_, rfl, hown, hbel⟩⟩
        rw [results_cc rfl]
        clear hown hbel hK' hd1 q4' q5'
        generalize ((wr.setCell ⟨w.heap.size, 0, none⟩ (.slice a2 n2 c2)).setCell ⟨w.heap.size + 1, 0, none⟩ (.bool true)).putObj D (.deferred none) = WF at *
        go_simp
end Go.Proofs.Ytmcilmmnpolieaa.SeqG
/- A ledger that goes through leave, go and join, with two boxes beside it; what each call answers there. Each theorem's premises are its conditions. -/
namespace Go.Proofs.Ytmcilmmnpolieaa
open Go.ChangeShapes Go.WideShapes Go.ChangeAt Go.RowKit Go.Shelf Go.Deep

/-- the params that charged tells. -/
def chgL (L : Lay) (st : LS) (d : Nat) : List P3 := members st d (-1) 64 ++ (L.ol d).map (·.p)
theorem chgL_perm {w : World} {L : Lay} {st : LS} (h : LAt w L st) {d : Nat} (hd : d < st.nd) : (chgL L st d).Perm (allOf st d (-1)) := all_perm h hd (-1)
theorem chgL_len {w : World} {L : Lay} {st : LS} {n : Nat} (h : LAt w L st) (ho : LOk st n) {d : Nat} (hd : d < st.nd) : (chgL L st d).length ≤ 64 + n := by
  rw [(chgL_perm h hd).length_eq]; exact allOf_le ho hd (-1)
theorem owns_slice {w : World} {B : Nat} {v : Value} {ps : List P3} (h : Owns w B v ps) : ∃ a c, v = .slice a ps.length c := by
  obtain ⟨_, ⟨rfl, h0⟩ | ⟨g, cap, cur, rfl, _⟩⟩ := h
  · exact ⟨none, 0, by rw [h0]⟩
  · exact ⟨_, _, rfl⟩
def RuleAt (w : World) (b : Nat) (hard : Bool) (cap wk : Int) : Prop := w.cell? ⟨b, 0, none⟩ = some (.bool hard) ∧ w.cell? ⟨b, 1, none⟩ = some (.int .i64 cap) ∧ w.cell? ⟨b, 2, none⟩ = some (.int .i64 wk)
structure OwK (w : World) (g b9 b12 : Nat) (hard : Bool) (cap wk : Int) (p : P3) (st : LS) (W : World) (L : Lay) : Prop where
  at_ : LAt W L st
  g : L.g = g
  bel : Below w.heap.size w W
  low : ∀ k, L.role k ≠ none → w.heap.size ≤ k
  o9 : L.role b9 = none
  o12 : L.role b12 = none
  c9 : ParamAt W b9 0 p
  c12 : RuleAt W b12 hard cap wk
section
variable {w W W' : World} {g b9 b12 : Nat} {hard : Bool} {cap wk : Int} {p : P3} {st st' : LS} {L L' : Lay} {n : Nat}
theorem OwK.below (h : OwK w g b9 b12 hard cap wk p st W L) (k : Below W.heap.size W W') : OwK w g b9 b12 hard cap wk p st W' L :=
  ⟨h.at_.below k, h.g, bel_end h.bel k, h.low, h.o9, h.o12, h.c9.same' (k.block b9 (cell_lt h.c9.1)), ⟨(k.cell (cell_lt h.c12.1)).trans h.c12.1, (k.cell (cell_lt h.c12.2.1)).trans h.c12.2.1, (k.cell (cell_lt h.c12.2.2)).trans h.c12.2.2⟩⟩
theorem role_off {w' : World} (hn : Next W L w' L') {b : Nat} (hb : b < W.heap.size) (h : L.role b = none) : L'.role b = none := by
  cases hr : L'.role b with
  | none => rfl
  | some r =>
    rcases hn.role b (by rw [hr]; exact fun e => by cases e) with h1 | h1
    · exact absurd h h1
    · omega
theorem OwK.step (h : OwK w g b9 b12 hard cap wk p st W L) (hn : Next W L W' L') (ha : LAt W' L' st') : OwK w g b9 b12 hard cap wk p st' W' L' := by
  have s9 : Same W W' b9 := hn.only.block b9 (cell_lt h.c9.1) (fun e => e h.o9)
  have s12 : Same W W' b12 := hn.only.block b12 (cell_lt h.c12.1) (fun e => e h.o12)
  refine ⟨ha, hn.g.trans h.g, h.bel.trans ⟨hn.only.os, hn.only.tape, hn.only.output, hn.only.size, fun k hk => hn.only.block k (Nat.lt_of_lt_of_le hk h.bel.size) (fun e => by have := h.low k e; omega)⟩, fun k hk => ?_, role_off hn (cell_lt h.c9.1) h.o9, role_off hn (cell_lt h.c12.1) h.o12, h.c9.same' s9,
    ⟨(s12.cell 0).trans h.c12.1, (s12.cell 1).trans h.c12.2.1, (s12.cell 2).trans h.c12.2.2⟩⟩
  rcases hn.role k hk with h1 | h1
  · exact h.low k h1
  · exact Nat.le_trans h.bel.size h1
theorem ok_charged (h : OwK w g b9 b12 hard cap wk p st W L) (ho : LOk st n) (hn : n ≤ 900) {d : Nat} (hd : d < st.nd) {m : Nat} (hm : (chgL L st d).length = m) : Calls Try.prog 21 #[.pointer (some ⟨g, 0, none⟩), .int .i64 d] W
    fun e w' => ∃ a c, e = .returned (.tuple #[.slice a m c, .bool true]) ∧ ParamRow w' (.slice a m c) (chgL L st d) ∧ OwK w g b9 b12 hard cap wk p st w' L := by
  have C := SeqG.charged_in h.at_ ho hn d hd
  rw [h.g] at C
  refine C.mono ?_
  rintro e w' ⟨v, rfl, hO, hb⟩
  obtain ⟨a, c, rfl⟩ := owns_slice hO
  exact ⟨a, c, by rw [← hm]; rfl, by rw [← hm]; exact (owns_row hO).1, h.below hb⟩
theorem ok_load (h : OwK w g b9 b12 hard cap wk p st W L) {v : Value} {ps : List P3} (hr : ParamRow W v ps) (hl : ps.length ≤ 1000) (hc : RuleMay cap wk) (ha : allMay ps = true) {S M : Nat} (hS : asked hard ps = (S, M)) : Calls Try.prog 22 #[.agg #[.bool hard, .int .i64 cap, .int .i64 wk], v] W
    fun e w' => e = .returned (.tuple #[.int .i64 (S : Nat), .int .i64 (M : Nat), .int .i64 0]) ∧ OwK w g b9 b12 hard cap wk p st w' L := by
  have C := load_any hard cap wk v ps W hr hl
  rw [load_ok hc ha, hS] at C
  exact C.mono fun e w' hh => ⟨hh.1, h.below hh.2⟩
theorem ok_leave (h : OwK w g b9 b12 hard cap wk p st W L) (ho : LOk st n) (hn : n ≤ 60) (id tm : Int) (hr : (leaveS st id tm).2 = 0) : Calls Try.prog 11 #[.pointer (some ⟨g, 0, none⟩), .int .i64 id, .int .i64 tm] W
    fun e w' => e = .returned (.int .i64 0) ∧ ∃ L', OwK w g b9 b12 hard cap wk p (leaveS st id tm).1 w' L' := by
  have C := leave_any h.at_ ho hn id tm
  rw [h.g, hr] at C
  refine C.mono ?_
  rintro e w' ⟨rfl, L', l', n'⟩
  exact ⟨rfl, L', h.step n' l'⟩
theorem ok_go (h : OwK w g b9 b12 hard cap wk p st W L) (ho : LOk st n) (hn : n ≤ 900) (tm : Int) (hr : (goS st tm).2.2 = 0) {y : Int} (hy : (goS st tm).2.1 = y) : Calls Try.prog 13 #[.pointer (some ⟨g, 0, none⟩), .int .i64 tm] W
    fun e w' => e = .returned (.tuple #[.int .i64 y, .int .i64 0]) ∧ ∃ L', OwK w g b9 b12 hard cap wk p (goS st tm).1 w' L' := by
  have C := go_any h.at_ ho hn tm
  rw [h.g, hr, hy] at C
  refine C.mono ?_
  rintro e w' ⟨rfl, L', l', n'⟩
  exact ⟨rfl, L', h.step n' l'⟩
theorem ok_join (h : OwK w g b9 b12 hard cap wk p st W L) (ho : LOk st n) (hn : n ≤ 900) (id d : Int) (hr : (joinS st id d p).2 = 0) : Calls Try.prog 9 #[.pointer (some ⟨g, 0, none⟩), .int .i64 id, .int .i64 d, .agg #[.int .i64 p.1, .int .i64 p.2.1, .int .i64 p.2.2]] W
    fun e w' => e = .returned (.int .i64 0) ∧ ∃ L', OwK w g b9 b12 hard cap wk p (joinS st id d p).1 w' L' := by
  have C := join_any h.at_ ho hn id d p
  rw [h.g, hr] at C
  refine C.mono ?_
  rintro e w' ⟨rfl, L', l', n'⟩
  exact ⟨rfl, L', h.step n' l'⟩
theorem ok_owed (h : OwK w g b9 b12 hard cap wk p st W L) (ho : LOk st n) (hn : n ≤ 900) {d : Nat} (hd : d < st.nd) : Calls Try.prog 18 #[.pointer (some ⟨g, 0, none⟩), .int .i64 d] W
    fun e w' => (∃ a c, e = .returned (.slice a (L.ol d).length c) ∧ ∀ k, k < (L.ol d).length → ∃ gb, a = some ⟨gb, 0, none⟩ ∧ gb < w'.heap.size ∧ OwAt w' gb (k * 5) ((L.ol d).getD k default)) ∧ OwK w g b9 b12 hard cap wk p st w' L := by
  have C := owed_in h.at_ ho hn d hd
  rw [h.g] at C
  refine C.mono ?_
  rintro e w' ⟨v, rfl, hO, hb⟩
  obtain ⟨a, c, rfl, hrow⟩ := SeqG.ob_shape hO
  refine ⟨⟨a, c, rfl, fun k hk => ?_⟩, h.below hb⟩
  obtain ⟨gb, h1, _, h3, h4⟩ := hrow k hk
  exact ⟨gb, h1, h3, h4⟩
/-- one server's params, in a slice of their own. -/
theorem one_row (q : P3) (U : World) : ParamRow (U.alloc (.cells #[.int .i64 q.1, .int .i64 q.2.1, .int .i64 q.2.2] 24)) (.slice (some ⟨U.heap.size, 0, none⟩) 1 1) [q] := by
  refine .inr ⟨U.heap.size, 0, 1, rfl, by simp, by simp, fun j hj => ?_⟩
  have : j = 0 := by simpa using hj
  subst this
  exact ⟨by rw [cell_new]; rfl, by rw [cell_new]; rfl, by rw [cell_new]; rfl⟩
end
end Go.Proofs.Ytmcilmmnpolieaa
/- LedgerOwes answers true at every calls, every server and every time. No condition. -/
namespace Go.Proofs.Ytmcilmmnpolieaa.ledgerOwes
open Go.ChangeShapes Go.WideShapes Go.ChangeAt Go.RowKit Go.Joins Go.Shelf Go.Deep

set_option maxRecDepth 100000 in
set_option maxHeartbeats 4000000 in
theorem many (id by_ : Int) (a : Option Addr) (len cap : Nat) (w : World) (hl : 60 < len) : Calls Try.prog 4 #[.slice a len cap, .int .i64 id, .int .i64 by_] w (Gives (.bool true) w) := by
  have BF := Lib.hid (fun W => begun_far a len cap W hl)
  have BS := Lib.hid (fun W => begins_any W)
  have AW := Lib.hid (fun W => awake_any W)
  clear hl
  go_enter Try.func4, Try.ntmps4
  go_wp2_with fail
  refine (BF.out _).mono ?_
  rintro e w1 ⟨rfl, b2⟩
  go_wp2_with fail
  refine (BS.out _).mono ?_
  rintro e w3 ⟨rfl, b4⟩
  go_wp2_with fail
  refine (AW.out _).mono ?_
  rintro e w5 ⟨rfl, b5⟩
  go_wp2_with fail
  go_ret
  exact ⟨rfl, bel_end (bel_end b2 b4) b5⟩
set_option maxRecDepth 100000 in
set_option maxHeartbeats 4000000 in
theorem late (id by_ : Int) (a : Option Addr) (cap : Nat) (ops : List LOp) (w : World) (hl : ops.length ≤ 60) (hrow : ∀ j, j < ops.length → ∃ b off, a = some ⟨b, off, none⟩ ∧ b < w.heap.size ∧ OpAt w b (off + j * 8) (ops.getD j op0)) (hb : by_ < 1 ∨ 1000 < by_) : Calls Try.prog 4 #[.slice a ops.length cap, .int .i64 id, .int .i64 by_] w (Gives (.bool true) w) := by
  have BG := Lib.hid (begun_ok a cap ops w hl hrow)
  have BS := Lib.hid (fun W => begins_any W)
  have AW := Lib.hid (fun W => awake_any W)
  generalize runS (newLS 3) ops = st at *
  generalize ops.length = m at *
  clear hl hrow
  by_cases h1 : by_ < 1
  · have d1 : decide (by_ < 1) = true := decide_eq_true h1
    clear hb h1
    go_enter Try.func4, Try.ntmps4
    go_wp2_with fail
    refine BG.out.mono ?_
    rintro e w1 ⟨⟨L, rfl, _, _⟩, b2⟩
    go_wp2_with fail
    refine (BS.out _).mono ?_
    rintro e w3 ⟨rfl, b4⟩
    go_wp2_with fail
    refine (AW.out _).mono ?_
    rintro e w5 ⟨rfl, b5⟩
    go_wp2_with fail
    go_ret
    exact ⟨rfl, bel_end (bel_end b2 b4) b5⟩
  · have d1 : decide (by_ < 1) = false := decide_eq_false h1
    have d2 : decide (1000 < by_) = true := decide_eq_true (by omega)
    clear hb h1
    go_enter Try.func4, Try.ntmps4
    go_wp2_with fail
    refine BG.out.mono ?_
    rintro e w1 ⟨⟨L, rfl, _, _⟩, b2⟩
    go_wp2_with fail
    refine (BS.out _).mono ?_
    rintro e w3 ⟨rfl, b4⟩
    go_wp2_with fail
    refine (AW.out _).mono ?_
    rintro e w5 ⟨rfl, b5⟩
    go_wp2_with fail
    go_ret
    exact ⟨rfl, bel_end (bel_end b2 b4) b5⟩
set_option maxRecDepth 100000 in
set_option maxHeartbeats 4000000 in
theorem none_ (id by_ : Int) (a : Option Addr) (cap : Nat) (ops : List LOp) (w : World) (hl : ops.length ≤ 60) (hrow : ∀ j, j < ops.length → ∃ b off, a = some ⟨b, off, none⟩ ∧ b < w.heap.size ∧ OpAt w b (off + j * 8) (ops.getD j op0)) (h1 : 1 ≤ by_) (h2 : by_ ≤ 1000) (z0 z1 z2 z3 z4 : Int)
    (hw : ∀ (W : World) (L : Lay), LAt W L (runS (newLS 3) ops) → Calls Try.prog 16 #[.pointer (some ⟨L.g, 0, none⟩), .int .i64 id] W fun e w' => e = .returned (.tuple #[.int .i64 z0, .agg #[.int .i64 z1, .int .i64 z2, .int .i64 z3], .int .i64 z4]) ∧ Below W.heap.size W w')
    (hz : z4 ≠ 0 ∨ 1099511627776 ≤ (runS (newLS 3) ops).now + by_) : Calls Try.prog 4 #[.slice a ops.length cap, .int .i64 id, .int .i64 by_] w (Gives (.bool true) w) := by
  have BG := Lib.hid (begun_ok a cap ops w hl hrow)
  have AW := Lib.hid (fun W => awake_any W)
  have WH := Lib.hid hw
  have hok : LOk (runS (newLS 3) ops) 60 := (run_ok ops (new_ok (n := 3) (by omega))).mono (by omega)
  have hn := hok.now
  have d1 : decide (by_ < 1) = false := decide_eq_false (by omega)
  have d2 : decide (1000 < by_) = false := decide_eq_false (by omega)
  have NW := Lib.hid (fun (W : World) (L : Lay) (h : LAt W L (runS (newLS 3) ops)) => now_any h)
  have hcase : (z4 != 0) = true ∨ ((z4 != 0) = false ∧ decide (1099511627776 ≤ (runS (newLS 3) ops).now + by_) = true) := by
    by_cases h : z4 = 0
    · subst h
      exact .inr ⟨rfl, decide_eq_true (hz.resolve_left (fun h => h rfl))⟩
    · exact .inl (by rw [bne_iff_ne]; exact h)
  have HC := Lib.hid hcase
  generalize runS (newLS 3) ops = st at *
  generalize ops.length = m at *
  generalize st.now = sn at *
  clear hl hrow hok hw hz hcase
  go_enter Try.func4, Try.ntmps4
  go_wp2_with fail
  refine BG.out.mono ?_
  rintro e w1 ⟨⟨L, rfl, l1, r1⟩, b1⟩
  have W1 := Lib.hid (WH.out w1 L l1)
  have N1 := Lib.hid (fun W (hW : Below w1.heap.size w1 W) => NW.out W L (l1.below hW))
  have HB1 := Lib.hid b1
  generalize L.g = g at *
  clear l1 r1 b1
  go_wp2_with fail
  refine W1.out.mono ?_
  rintro e w2 ⟨rfl, b2⟩
  have HB2 := Lib.hid b2
  clear b2
  go_wp2_with fail
  refine (N1.out _ (bel_alloc HB2.out)).mono ?_
  rintro e w3 ⟨rfl, hw3⟩
  obtain rfl := hw3.symm
  rcases HC.out with d3 | ⟨d3, d4⟩
  · go_wp2_with fail
    refine (AW.out _).mono ?_
    rintro e w5 ⟨rfl, b5⟩
    go_wp2_with fail
    go_ret
    exact ⟨rfl, bel_end (bel_end HB1.out (bel_alloc HB2.out)) b5⟩
  · go_wp2_with fail
    refine (AW.out _).mono ?_
    rintro e w5 ⟨rfl, b5⟩
    go_wp2_with fail
    go_ret
    exact ⟨rfl, bel_end (bel_end HB1.out (bel_alloc HB2.out)) b5⟩
set_option maxRecDepth 100000 in
set_option maxHeartbeats 16000000 in
theorem main (i : Nat) (hi : i < 64) (by_ : Int) (a : Option Addr) (cap : Nat) (ops : List LOp) (w : World) (hl : ops.length ≤ 60) (hrow : ∀ j, j < ops.length → ∃ b off, a = some ⟨b, off, none⟩ ∧ b < w.heap.size ∧ OpAt w b (off + j * 8) (ops.getD j op0)) (h1 : 1 ≤ by_) (h2 : by_ ≤ 1000) (d : Nat) (p1 p2 p3 : Int) (hs : (runS (newLS 3) ops).srv i = some (d, (p1, p2, p3)))
    (hH : (runS (newLS 3) ops).now + by_ < 1099511627776) : Calls Try.prog 4 #[.slice a ops.length cap, .int .i64 i, .int .i64 by_] w (Gives (.bool true) w) := by
  have BG := Lib.hid (begun_ok a cap ops w hl hrow)
  have AW := Lib.hid (fun W => awake_any W)
  have hok : LOk (runS (newLS 3) ops) 60 := (run_ok ops (new_ok (n := 3) (by omega))).mono (by omega)
  have hinv : LInv (runS (newLS 3) ops) := run_inv ops (new_inv 3) (new_ok (n := 3) (by omega))
  generalize runS (newLS 3) ops = st at *
  generalize ops.length = m0 at *
  have hn := hok.now
  have OE := owes_end hok hinv hi hs (at_ := st.now + by_) (by omega) (clock_iff.2 (by omega))
  have OK := owes_ok (i := i) (at_ := st.now + by_) hok
  have OI := owes_inv (i := i) (at_ := st.now + by_) hok hinv
  have hd := hok.srv i hi d _ hs
  have d1 : decide (by_ < 1) = false := decide_eq_false (by omega)
  have d2 : decide (1000 < by_) = false := decide_eq_false (by omega)
  have d3 : decide (1099511627776 ≤ st.now + by_) = false := decide_eq_false (by omega)
  have HOE := Lib.hid OE
  have HOK := Lib.hid hok
  have HO1 := Lib.hid OK.1
  have HO2 := Lib.hid OK.2.1
  have HO3 := Lib.hid OK.2.2
  have HOI := Lib.hid OI
  have HD := Lib.hid hd
  have HI := Lib.hid hi
  have HS := Lib.hid hs
  have HRM : Hid (RuleMay (st.dom d).cap (st.dom d).wk) := (test_zero2.1 OE.pass).1
  have HAM : Hid (allMay (allOf st d (-1)) = true) := (test_zero2.1 OE.pass).2.1
  obtain ⟨hard, hhard⟩ : ∃ x, (st.dom d).hard = x := ⟨_, rfl⟩
  obtain ⟨rcap, hrcap⟩ : ∃ x, (st.dom d).cap = x := ⟨_, rfl⟩
  obtain ⟨rwk, hrwk⟩ : ∃ x, (st.dom d).wk = x := ⟨_, rfl⟩
  rw [hrcap, hrwk] at HRM
  -- the sums
  obtain ⟨S0, M0, hS0⟩ : ∃ S M, asked hard (allOf st d (-1)) = (S, M) := ⟨_, _, rfl⟩
  obtain ⟨S3, M3, hS3⟩ : ∃ S M, asked hard (allOf (oS3 st i (st.now + by_)) d (-1)) = (S, M) := ⟨_, _, rfl⟩
  obtain ⟨S1, M1, hS1⟩ : ∃ S M, asked hard [(p1, p2, p3)] = (S, M) := ⟨_, _, rfl⟩
  obtain ⟨mm, hmm⟩ : ∃ x, (allOf st d (-1)).length = x := ⟨_, rfl⟩
  have hbd := (asked_bound hard HAM.out (by have := allOf_le hok hd (-1); omega)).1
  rw [hS0] at hbd
  simp only at hbd
  have hle : S3 + S1 ≤ S0 := by
    have h := (OE.less.asked hard).1
    rw [asked_perm hard (List.perm_append_comm (l₁ := allOf (oS3 st i (st.now + by_)) d (-1)) (l₂ := [(p1, p2, p3)]))] at h
    rw [List.singleton_append, asked_cons, hS3, hS0] at h
    have e1 : askOf hard (p1, p2, p3) = S1 := by
      have := asked_cons hard (p1, p2, p3) []
      rw [hS1] at this
      have h2 := congrArg Prod.fst this
      simp [asked, sumGo2] at h2
      exact h2.symm
    rw [e1] at h
    simp only at h
    omega
  have dle : decide ((S3 : Int) ≤ (S0 : Int) - (S1 : Int)) = true := decide_eq_true (by omega)
  obtain ⟨y1, hy1⟩ : ∃ y, (goS (oS1 st i (st.now + by_)) (st.now + by_ - 1)).2.1 = y := ⟨_, rfl⟩
  obtain ⟨y2, hy2⟩ : ∃ y, (goS (oS2 st i (st.now + by_)) (st.now + by_)).2.1 = y := ⟨_, rfl⟩
  have hy1' := OE.go1.2
  have hy2' := OE.go2.2
  rw [hy1] at hy1'
  rw [hy2] at hy2'
  have dy1 : decide (y1 < 0) = false := decide_eq_false (by omega)
  have dy2 : decide (y2 < 1) = false := decide_eq_false (by omega)
  have HY1 := Lib.hid hy1
  have HY2 := Lib.hid hy2
  have HS0 := Lib.hid hS0
  have HS3 := Lib.hid hS3
  have HS1 := Lib.hid hS1
  have HMM := Lib.hid hmm
  have HHARD := Lib.hid hhard
  have HRC := Lib.hid hrcap
  have HRW := Lib.hid hrwk
  obtain ⟨sn, hsn⟩ : ∃ sn, sn = st.now := ⟨_, rfl⟩
  have HSN := Lib.hid hsn
  rw [← hsn] at HOE HO1 HO2 HO3 HOI HS3 HY1 HY2 d3 hH hn
  clear hl hrow hok hinv OE OK OI hd hs hhard hrcap hrwk hS0 hS3 hS1 hmm hy1 hy2 hsn hi hy1' hy2'
  go_enter Try.func4, Try.ntmps4
  go_wp2_with fail
  refine BG.out.mono ?_
  rintro e w1 ⟨⟨L, rfl, l1, r1⟩, b1⟩
  have WH := Lib.hid (where_some l1 i HI.out HS.out)
  have NW := Lib.hid (fun W (hW : Below w1.heap.size w1 W) => now_any (l1.below hW))
  have RU := Lib.hid (fun W (hW : Below w1.heap.size w1 W) => rule_in (l1.below hW) d HD.out)
  rw [HHARD.out, HRC.out, HRW.out] at RU
  rw [← HSN.out] at NW
  have HL1 := Lib.hid l1
  have HR1 := Lib.hid r1
  have HB1 := Lib.hid b1
  obtain ⟨g, hg⟩ : ∃ g, g = L.g := ⟨_, rfl⟩
  rw [← hg] at WH NW RU ⊢
  have HG := Lib.hid hg
  clear l1 r1 b1 hg BG
  go_wp2_with fail
  refine WH.out.mono ?_
  rintro e w2 ⟨rfl, b2⟩
  have HB2 := Lib.hid b2
  clear b2 WH
  go_wp2_with fail
  refine (NW.out _ (bel_alloc HB2.out)).mono ?_
  rintro e w3 ⟨rfl, hw3⟩
  obtain rfl := hw3.symm
  go_wp2_with fail
  refine (RU.out _ (bel_alloc HB2.out)).mono ?_
  rintro e w3 ⟨rfl, b3⟩
  go_wp2_with fail
  have hs12 : w1.heap.size ≤ w2.heap.size := HB2.out.size
  have hs23 : w2.heap.size + 1 ≤ w3.heap.size := by have := b3.size; simpa using this
  have HK0 : Hid (OwK w g w2.heap.size w3.heap.size hard rcap rwk (p1, p2, p3) st (w3.alloc (.cells #[.bool hard, .int .i64 rcap, .int .i64 rwk] 41)) L) := by
    have hb13 : Below w1.heap.size w1 (w3.alloc (.cells #[.bool hard, .int .i64 rcap, .int .i64 rwk] 41)) := bel_alloc (bel_end (bel_alloc HB2.out) b3)
    have off : ∀ b, w1.heap.size ≤ b → L.role b = none := fun b hb => by
      cases hr : L.role b with
      | none => rfl
      | some r => have := HL1.out.lt b (by rw [hr]; exact fun e => by cases e); omega
    have x0 := (b3.cell (p := ⟨w2.heap.size, 0, none⟩) (by simp)).trans (show _ = some (Value.int .i64 p1) by go_simp)
    have x1 := (b3.cell (p := ⟨w2.heap.size, 1, none⟩) (by simp)).trans (show _ = some (Value.int .i64 p2) by go_simp)
    have x2 := (b3.cell (p := ⟨w2.heap.size, 2, none⟩) (by simp)).trans (show _ = some (Value.int .i64 p3) by go_simp)
    exact ⟨HL1.out.below hb13, HG.out.symm, bel_end HB1.out hb13, HR1.out, off _ hs12, off _ (by omega), ⟨cell_alloc x0, cell_alloc x1, cell_alloc x2⟩, ⟨(cell_new _ _ _ _).trans rfl, (cell_new _ _ _ _).trans rfl, (cell_new _ _ _ _).trans rfl⟩⟩
  have hmL : (chgL L st d).length = mm := by rw [← HMM.out]; exact (chgL_perm HL1.out HD.out).length_eq
  have haL : asked hard (chgL L st d) = (S0, M0) := by rw [← HS0.out]; exact asked_perm hard (chgL_perm HL1.out HD.out)
  have hamL : allMay (chgL L st d) = true := by rw [allMay_perm (chgL_perm HL1.out HD.out)]; exact HAM.out
  have hlL : (chgL L st d).length ≤ 1000 := by have := chgL_len HL1.out HOK.out HD.out; omega
  have HHL := Lib.hid hlL
  have HHA := Lib.hid haL
  have HHM := Lib.hid hamL
  have C0 := Lib.hid (ok_charged HK0.out HOK.out (by omega) HD.out hmL)
  clear hmL haL hamL hlL b3 RU NW HL1 HR1 HB1 HG
  generalize w2.heap.size = B9 at *
  generalize hB12 : w3.heap.size = B12 at *
  generalize hW4 : w3.alloc (.cells #[.bool hard, .int .i64 rcap, .int .i64 rwk] 41) = W4 at *
  clear hW4 hB12 hs12 hs23 HB2
  have qa0 := HK0.out.c9.1
  have qa1 := HK0.out.c9.2.1
  have qa2 := HK0.out.c9.2.2
  have qr0 := HK0.out.c12.1
  have qr1 := HK0.out.c12.2.1
  have qr2 := HK0.out.c12.2.2
  have lqa := cell_lt qa0
  have lqr := cell_lt qr0
  refine C0.out.mono ?_
  rintro e w4 ⟨a4, c4, rfl, r4, k4⟩
  have C1 := Lib.hid (ok_load k4 r4 HHL.out HRM.out HHM.out HHA.out)
  clear qa0 qa1 qa2 qr0 qr1 qr2 lqa lqr
  have qa0 := k4.c9.1
  have qa1 := k4.c9.2.1
  have qa2 := k4.c9.2.2
  have qr0 := k4.c12.1
  have qr1 := k4.c12.2.1
  have qr2 := k4.c12.2.2
  have lqa := cell_lt qa0
  have lqr := cell_lt qr0
  clear k4 r4 C0 HK0
  go_wp2_with fail
  refine C1.out.mono ?_
  rintro e w5 ⟨rfl, k5⟩
  have C2 := Lib.hid (ok_leave k5 HOK.out (by omega) i (sn + by_) HOE.out.leave)
  clear qa0 qa1 qa2 qr0 qr1 qr2 lqa lqr
  have qa0 := k5.c9.1
  have qa1 := k5.c9.2.1
  have qa2 := k5.c9.2.2
  have qr0 := k5.c12.1
  have qr1 := k5.c12.2.1
  have qr2 := k5.c12.2.2
  have lqa := cell_lt qa0
  have lqr := cell_lt qr0
  clear k5 C1
  go_wp2_with fail
  refine C2.out.mono ?_
  rintro e w6 ⟨rfl, L1, k6⟩
  replace k6 : OwK w g B9 B12 hard rcap rwk (p1, p2, p3) (oS1 st i (sn + by_)) w6 L1 := k6
  have hd6 : d < (oS1 st i (sn + by_)).nd := by rw [HOE.out.nd.1]; exact HD.out
  have hp6 := (chgL_perm k6.at_ hd6).trans HOE.out.perm
  have C3 := Lib.hid (ok_charged k6 HO1.out (by omega) hd6 (m := mm) (by rw [← HMM.out]; exact hp6.length_eq))
  have HA6 : Hid (asked hard (chgL L1 (oS1 st i (sn + by_)) d) = (S0, M0)) := by show _ = _; rw [← HS0.out]; exact asked_perm hard hp6
  have HM6 : Hid (allMay (chgL L1 (oS1 st i (sn + by_)) d) = true) := by show _ = _; rw [allMay_perm hp6]; exact HAM.out
  have HL6 : Hid ((chgL L1 (oS1 st i (sn + by_)) d).length ≤ 1000) := by have := chgL_len k6.at_ HO1.out hd6; show _ ≤ _; omega
  clear qa0 qa1 qa2 qr0 qr1 qr2 lqa lqr
  have qa0 := k6.c9.1
  have qa1 := k6.c9.2.1
  have qa2 := k6.c9.2.2
  have qr0 := k6.c12.1
  have qr1 := k6.c12.2.1
  have qr2 := k6.c12.2.2
  have lqa := cell_lt qa0
  have lqr := cell_lt qr0
  clear k6 C2 hp6 hd6
  go_wp2_with fail
  refine C3.out.mono ?_
  rintro e w7 ⟨a7, c7, rfl, r7, k7⟩
  have C4 := Lib.hid (ok_load k7 r7 HL6.out HRM.out HM6.out HA6.out)
  clear qa0 qa1 qa2 qr0 qr1 qr2 lqa lqr
  have qa0 := k7.c9.1
  have qa1 := k7.c9.2.1
  have qa2 := k7.c9.2.2
  have qr0 := k7.c12.1
  have qr1 := k7.c12.2.1
  have qr2 := k7.c12.2.2
  have lqa := cell_lt qa0
  have lqr := cell_lt qr0
  clear k7 r7 C3
  go_wp2_with fail
  refine C4.out.mono ?_
  rintro e w8 ⟨rfl, k8⟩
  have C5 := Lib.hid (ok_go k8 HO1.out (by omega) (sn + by_ - 1) HOE.out.go1.1 HY1.out)
  clear qa0 qa1 qa2 qr0 qr1 qr2 lqa lqr
  have qa0 := k8.c9.1
  have qa1 := k8.c9.2.1
  have qa2 := k8.c9.2.2
  have qr0 := k8.c12.1
  have qr1 := k8.c12.2.1
  have qr2 := k8.c12.2.2
  have lqa := cell_lt qa0
  have lqr := cell_lt qr0
  clear k8 C4
  go_wp2_with fail
  refine C5.out.mono ?_
  rintro e w9 ⟨rfl, L2, k9⟩
  replace k9 : OwK w g B9 B12 hard rcap rwk (p1, p2, p3) (oS2 st i (sn + by_)) w9 L2 := k9
  have C6 := Lib.hid (ok_go k9 HO2.out (by omega) (sn + by_) HOE.out.go2.1 HY2.out)
  clear qa0 qa1 qa2 qr0 qr1 qr2 lqa lqr
  have qa0 := k9.c9.1
  have qa1 := k9.c9.2.1
  have qa2 := k9.c9.2.2
  have qr0 := k9.c12.1
  have qr1 := k9.c12.2.1
  have qr2 := k9.c12.2.2
  have lqa := cell_lt qa0
  have lqr := cell_lt qr0
  clear k9 C5
  go_wp2_with fail
  refine C6.out.mono ?_
  rintro e w10 ⟨rfl, L3, k10⟩
  replace k10 : OwK w g B9 B12 hard rcap rwk (p1, p2, p3) (oS3 st i (sn + by_)) w10 L3 := k10
  have hd10 : d < (oS3 st i (sn + by_)).nd := by rw [HOE.out.nd.2]; exact HD.out
  have C7 := Lib.hid (ok_owed k10 HO3.out (by omega) hd10)
  have HLT : Hid (∀ k, k < (L3.ol d).length → sn + by_ < ((L3.ol d).getD k default).till) := fun k hk => by
    have hm : (L3.ol d).getD k default ∈ (L3.ol d) := by rw [List.getD_eq_getElem?_getD, List.getElem?_eq_getElem hk]; exact List.getElem_mem hk
    have := HOI.out.late d hd10 _ ((k10.at_.dom d hd10).perm.mem_iff.1 hm)
    rwa [HOE.out.now] at this
  clear qa0 qa1 qa2 qr0 qr1 qr2 lqa lqr
  have qa0 := k10.c9.1
  have qa1 := k10.c9.2.1
  have qa2 := k10.c9.2.2
  have qr0 := k10.c12.1
  have qr1 := k10.c12.2.1
  have qr2 := k10.c12.2.2
  have lqa := cell_lt qa0
  have lqr := cell_lt qr0
  clear k10 C6
  go_wp2_with fail
  refine C7.out.mono ?_
  rintro e w11 ⟨⟨a11, c11, rfl, hrow⟩, k11⟩
  have hp11 := chgL_perm k11.at_ hd10
  have C8 := Lib.hid (ok_charged k11 HO3.out (by omega) hd10 rfl)
  have HA11 : Hid (asked hard (chgL L3 (oS3 st i (sn + by_)) d) = (S3, M3)) := by show _ = _; rw [← HS3.out]; exact asked_perm hard hp11
  have HM11 : Hid (allMay (chgL L3 (oS3 st i (sn + by_)) d) = true) := by
    show _ = _
    rw [allMay_perm hp11]
    exact allMay_sub (List.sublist_append_left _ _) (HOE.out.less.may HAM.out)
  have HL11 : Hid ((chgL L3 (oS3 st i (sn + by_)) d).length ≤ 1000) := by have := chgL_len k11.at_ HO3.out hd10; show _ ≤ _; omega
  have HRO := Lib.hid hrow
  have hol9 := ol_len k11.at_ HO3.out hd10
  generalize hol : L3.ol d = ol at *
  generalize hm11 : (chgL L3 (oS3 st i (sn + by_)) d).length = m11 at C8
  clear qa0 qa1 qa2 qr0 qr1 qr2 lqa lqr hol hm11
  have qa0 := k11.c9.1
  have qa1 := k11.c9.2.1
  have qa2 := k11.c9.2.2
  have qr0 := k11.c12.1
  have qr1 := k11.c12.2.1
  have qr2 := k11.c12.2.2
  have lqa := cell_lt qa0
  have lqr := cell_lt qr0
  have HK11 := Lib.hid k11
  clear k11 C7 hrow hp11
  go_wp2_with fail
  go_loopg [29] ol.length (fun kx s29 wr => ∃ k : Nat, s29 = .int .i64 k ∧ k ≤ ol.length ∧ ol.length - k ≤ kx ∧ wr = w11)
  case atStart => exact ⟨0, rfl, by omega, by omega, rfl⟩
  case round =>
    obtain ⟨k, rfl, hk, hkx, hwr⟩ := hrel
    obtain rfl := hwr.symm
    by_cases hlt : k < ol.length
    · have hltz : (k : Int) < (ol.length : Int) := by omega
      obtain ⟨gb, rfl, lgb, o0, o1, o2, o3, o4⟩ := HRO.out k hlt
      have dl : decide ((ol.getD k default).till ≤ sn + by_) = false := decide_eq_false (by have := HLT.out k hlt; omega)
      generalize (ol.getD k default).till = till at *
      clear o0 o2 o3 o4
      go_wp2_with fail
      go_roundg (ol.length - (k + 1))
      case measure => omega
      case rel => exact ⟨k + 1, by first | rfl | (congr 1; done) | (congr 1; omega) | (simp; omega), by omega, Nat.le_refl _, rfl⟩
    · obtain rfl : k = ol.length := by omega
      have hge : ¬ (ol.length : Int) < (ol.length : Int) := by omega
      go_wp2_with fail
      refine C8.out.mono ?_
      rintro e w12 ⟨a12, c12, rfl, r12, k12⟩
      have C9 := Lib.hid (ok_load k12 r12 HL11.out HRM.out HM11.out HA11.out)
      clear qa0 qa1 qa2 qr0 qr1 qr2 lqa lqr HRO HLT hge hkx hk
      have qa0 := k12.c9.1
      have qa1 := k12.c9.2.1
      have qa2 := k12.c9.2.2
      have qr0 := k12.c12.1
      have qr1 := k12.c12.2.1
      have qr2 := k12.c12.2.2
      have lqa := cell_lt qa0
      have lqr := cell_lt qr0
      clear k12 r12 C8 HK11
      go_wp2_with fail
      refine C9.out.mono ?_
      rintro e w13 ⟨rfl, k13⟩
      have b14 := bel_alloc (Below.refl w13.heap.size w13) (o := .cells #[.int .i64 p1, .int .i64 p2, .int .i64 p3] 24)
      have C10 := Lib.hid (ok_load (k13.below b14) (one_row (p1, p2, p3) w13) (by simp) HRM.out (HOE.out.mem.may HAM.out) HS1.out)
      clear qa0 qa1 qa2 qr0 qr1 qr2 lqa lqr b14
      have qa0 := k13.c9.1
      have qa1 := k13.c9.2.1
      have qa2 := k13.c9.2.2
      have qr0 := k13.c12.1
      have qr1 := k13.c12.2.1
      have qr2 := k13.c12.2.2
      have lqa := cell_lt qa0
      have lqr := cell_lt qr0
      clear k13 C9
      go_wp2_with fail
      refine C10.out.mono ?_
      rintro e w15 ⟨rfl, k15⟩
      have C11 := Lib.hid (ok_join k15 HO3.out (by omega) i d HOE.out.join)
      clear qa0 qa1 qa2 qr0 qr1 qr2 lqa lqr
      have qa0 := k15.c9.1
      have qa1 := k15.c9.2.1
      have qa2 := k15.c9.2.2
      have qr0 := k15.c12.1
      have qr1 := k15.c12.2.1
      have qr2 := k15.c12.2.2
      have lqa := cell_lt qa0
      have lqr := cell_lt qr0
      clear k15 C10
      go_wp2_with fail
      refine C11.out.mono ?_
      rintro e w16 ⟨rfl, L4, k16⟩
      have HB16 := Lib.hid k16.bel
      clear qa0 qa1 qa2 qr0 qr1 qr2 lqa lqr k16 C11
      go_wp2_with fail
      refine (AW.out _).mono ?_
      rintro e w17 ⟨rfl, b17⟩
      have HE := Lib.hid (bel_end HB16.out b17)
      go_wp2_with fail
      go_ret
      exact ⟨rfl, HE.out⟩
theorem walk (v : Value) (ops : List LOp) (id by_ : Int) (w : World) (h : OpRow w v ops) (_ : (Lit.int .i64 id).wf = true) (_ : (Lit.int .i64 by_).wf = true) : Calls Try.prog 4 #[v, .int .i64 id, .int .i64 by_] w (Gives (.bool true) w) := by
  obtain ⟨a, cap, rfl, hrow⟩ := oprow_shape h
  by_cases hl : ops.length ≤ 60
  · by_cases hb : by_ < 1 ∨ 1000 < by_
    · exact late id by_ a cap ops w hl hrow hb
    · by_cases hid : 0 ≤ id ∧ id < 64
      · obtain ⟨i, rfl⟩ : ∃ k : Nat, id = k := ⟨id.toNat, by omega⟩
        have hi : i < 64 := by omega
        cases hs : (runS (newLS 3) ops).srv i with
        | none =>
          refine none_ i by_ a cap ops w hl hrow (by omega) (by omega) 0 0 0 0 14 (fun W L h => ?_) (.inl (by decide))
          have := where_any h i hi
          unfold whOf at this
          rw [hs] at this
          exact this
        | some s =>
          obtain ⟨d, p1, p2, p3⟩ := s
          by_cases hH : (runS (newLS 3) ops).now + by_ < 1099511627776
          · exact main i hi by_ a cap ops w hl hrow (by omega) (by omega) d p1 p2 p3 hs hH
          · refine none_ i by_ a cap ops w hl hrow (by omega) (by omega) (d : Nat) p1 p2 p3 0 (fun W L h => ?_) (.inr (by omega))
            exact where_some h i hi hs
      · exact none_ id by_ a cap ops w hl hrow (by omega) (by omega) 0 0 0 0 10 (fun W L _ => where_out L id hid) (.inl (by decide))
  · exact many id by_ a ops.length cap w (by omega)
set_option maxRecDepth 100000 in
theorem lifted (os : Os) (started : os.Started) (H : Type) (enc : TypeId × Value → H) :
    ReturnsInHanded {} Try.checked os 4 .any (Rows.ledgerOwesSpec.pre6 enc Try.prog Try.f4 Rows.ledgerOwesRow.domain false) (Rows.ledgerOwesSpec.post enc Try.prog Try.f4 false true false false) := by
  refine returnsInHanded_of_change (C := Try.checked) own started (by kernel_rfl) Try.func4
    (ChangeSpec.witness6 (enc := enc) (C := Try.checked) false ⟨#[], #[.slice none 0 0, .int .i64 0, .int .i64 0], []⟩ 8 (by kernel_rfl) (by kernel_rfl) (by kernel_rfl) (by kernel_rfl)) ?_
  intro W base args ds gs before hval0 hW hcnd _
  have hval : ∀ (j : Nat) t v, Try.f4.params[j]? = some t → args[j]? = some v → Value.okWide Try.prog W .any base t v := hval0
  have hW' := hW
  obtain ⟨p, q, hA0, hV, _, hfz, hnd⟩ := hW'
  have hA : DataW.TrodAll enc Try.prog W 0 (fun _ => true) true Try.f4.params.toList args.toList ds p := hA0
  rw [Try.params4] at hA hval
  obtain ⟨v0, v1, v2, d0, d1, d2, p0, p1, p2, rfl, _, _, h0, h1, h2⟩ := trodAll_three hA
  obtain ⟨l, hl, _⟩ := open_ops Try.underlying22 Try.underlying26 (by kernel_rfl) (fun i hi => by match i, hi with | 0, _ => exact ⟨_, rfl, rfl, by kernel_rfl, Try.underlying3⟩ | 1, _ => exact ⟨_, rfl, rfl, by kernel_rfl, Try.underlying3⟩ | 2, _ => exact ⟨_, rfl, rfl, by kernel_rfl, Try.underlying3⟩ | 3, _ => exact ⟨_, rfl, rfl, by kernel_rfl, Try.underlying3⟩) ⟨_, rfl, rfl, by kernel_rfl, Try.underlying24⟩ (fun i hi => by match i, hi with | 0, _ => exact ⟨_, rfl, rfl, by kernel_rfl, Try.underlying3⟩ | 1, _ => exact ⟨_, rfl, rfl, by kernel_rfl, Try.underlying3⟩ | 2, _ => exact ⟨_, rfl, rfl, by kernel_rfl, Try.underlying3⟩) ⟨_, rfl, rfl, by kernel_rfl, Try.underlying4⟩ (hval 0 22 v0 rfl rfl) h0
  obtain ⟨id, rfl, _, _, wid⟩ := open_int Try.underlying3 (hval 1 3 v1 rfl rfl) h1
  obtain ⟨by_, rfl, _, _, wby_⟩ := open_int Try.underlying3 (hval 2 3 v2 rfl rfl) h2
  refine (walk v0 l id by_ W hl wid wby_).mono fun e W' h => ?_
  exact law_post (f := Try.f4) rfl rfl Try.underlying4 (by kernel_rfl) (fun ds hd => by
    match ds, hd with
    | [_, _, _], _ => rfl) hW h

theorem over : Rows.ledgerOwesRow.holds Try.pinned (OpenSpec.ofChange Rows.ledgerOwesSpec) :=
  OpenClaim.holds_of_wide 4 Try.f4 rfl rfl rfl rfl rfl rfl rfl ⟨rfl, rfl, rfl, rfl, rfl⟩ rfl rfl rfl rfl rfl (by kernel_rfl) Try.func4 (by kernel_rfl)
    (of_decide_eq_true (by kernel_rfl)) (by unfold Func.isWrapper; first | (rw [if_pos (by decide +kernel)]; kernel_rfl) | (rw [if_neg (by decide +kernel)]; exact ⟨rfl, rfl⟩))
    (fun os started H enc _ => lifted os started H enc)

/-- THE STATEMENT. -/
theorem proved : Rows.LedgerOwesSaid := over
end Go.Proofs.Ytmcilmmnpolieaa.ledgerOwes
