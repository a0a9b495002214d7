/- The document's answer's Domain: it leaves one behind. The document's answer's New: what it lays. Each theorem's premises are its conditions. -/
import Derived.Test.YtmcilmmnpolieaaK28
import Derived.Test.YtmcilmmnpolieaaK29
/- The document's answer's Domain: it leaves one behind. Each theorem's premises are its conditions. -/
namespace Go.Proofs.Ytmcilmmnpolieaa
open Go.ChangeShapes Go.WideShapes Go.ChangeAt Go.RowKit Go.Shelf Go.Deep

theorem xinfoBool : (Try.prog.info? 4).map (fun i => (i.zero, i.size, i.bytes)) = some (some (.bool false), 1, 1) := by kernel_rfl
/-- a cell of g is another one, and a row's block may have grown. -/
structure Put (w : World) (g off b : Nat) (wa : World) (v : Value) : Prop where
  only : Only w wa fun k => k = g ∨ k = b
  gf : ∀ o, wa.frozen? ⟨g, o, none⟩ = w.frozen? ⟨g, o, none⟩
  gc : ∀ o, o ≠ off → wa.cell? ⟨g, o, none⟩ = w.cell? ⟨g, o, none⟩
  at_ : wa.cell? ⟨g, off, none⟩ = some v
theorem put_of {w w3 : World} {g off b : Nat} {o : Obj} {u v : Value} (lg : g < w.heap.size) (hbg : b ≠ g) (hgrow : (w.alloc o).grownBy w3 (some b)) (s0 : w3.cell? ⟨g, off, none⟩ = some u) : Put w g off b (w3.setCell ⟨g, off, none⟩ v) v := by
  have sg : Same w w3 g := (hgrow.block g (by simp; omega) (fun e => hbg (Option.some.inj e).symm)).trans (Below.heap_alloc _ _ _ lg)
  have o1 : Only w w3 fun k => k = g ∨ k = b := (Only.of_below (bel_alloc (Below.refl w.heap.size w))).grown hgrow fun k e => .inl (.inr (Option.some.inj e).symm)
  exact ⟨o1.set (a := ⟨g, off, none⟩) (.inl (.inl rfl)) _, fun o => (World.frozen?_setCell _ _ _ _).trans (sg.froz o), fun o ho => (set_other ho).trans (sg.cell o), World.cell?_setCell_same _ _ _ s0⟩
section
variable {w : World} {X : XLay} {s : XS}
theorem XAt.addDom {w' : World} (h : XAt w X s) {hv' cv' : Value} {hard' : List Bool} {cap' : List Int} (ho : Only w w' fun k => k = X.g ∨ X.hv.ownBlock = some k ∨ X.cv.ownBlock = some k)
    (gf : ∀ o, w'.frozen? ⟨X.g, o, none⟩ = w.frozen? ⟨X.g, o, none⟩) (gc : ∀ o, o ≠ 1 → o ≠ 2 → w'.cell? ⟨X.g, o, none⟩ = w.cell? ⟨X.g, o, none⟩) (g1 : w'.cell? ⟨X.g, 1, none⟩ = some hv') (g2 : w'.cell? ⟨X.g, 2, none⟩ = some cv')
    (hh : w'.ownsRow 0 4 1 hv' (s.nd + 1) (bools hard')) (hc : w'.ownsRow 0 3 1 cv' (s.nd + 1) (ints cap'))
    (hb : ∀ k, hv'.ownBlock = some k → X.hv.ownBlock = some k ∨ w.heap.size ≤ k) (cb : ∀ k, cv'.ownBlock = some k → X.cv.ownBlock = some k ∨ w.heap.size ≤ k) (hcb : ∀ k, hv'.ownBlock = some k → cv'.ownBlock = some k → False) (h8 : s.nd < 8) :
    ∃ X', XAt w' X' { s with nd := s.nd + 1, hard := hard', cap := cap' } ∧ XNext w X w' X' := by
  have same : ∀ k r, X.role k = some r → r ≠ .led → r ≠ .hard → r ≠ .cap → Same w w' k := fun k r hk h1 h2 h3 =>
    ho.block k (h.role_lt hk) (fun e => e.elim (x_ne hk h.rg h1) (fun e => e.elim (fun e => x_ne hk (h.rh _ e) h2 rfl) (fun e => x_ne hk (h.rc _ e) h3 rfl)))
  obtain ⟨role', hrole'⟩ : ∃ role' : Nat → Option XRole, role' = fun k => if hv'.ownBlock = some k then some .hard else if cv'.ownBlock = some k then some .cap else X.role k := ⟨_, rfl⟩
  have keepR : ∀ k r, X.role k = some r → r ≠ .hard → r ≠ .cap → role' k = some r := fun k r hk h1 h2 => by
    rw [hrole']
    simp only
    rw [if_neg (fun e => ?_), if_neg (fun e => ?_)]
    · exact hk
    · rcases cb _ e with h3 | h3
      · exact x_ne hk (h.rc _ h3) h2 rfl
      · have := h.role_lt hk; omega
    · rcases hb _ e with h3 | h3
      · exact x_ne hk (h.rh _ h3) h1 rfl
      · have := h.role_lt hk; omega
  have sw := same _ _ h.rw (by simp) (by simp) (by simp)
  refine ⟨{ X with role := role', hv := hv', cv := cv' }, ⟨fun k hk => ?_, keepR _ _ h.rg (by simp) (by simp), fun o => (gf o).trans (h.fg o), (gc _ (by omega) (by omega)).trans h.now, g1, g2, (gc _ (by omega) (by omega)).trans h.wv, (gc _ (by omega) (by omega)).trans h.ov,
    fun i hi => (gc _ (by omega) (by omega)).trans (h.inn i hi), fun j hj => (gc _ (by omega) (by omega)).trans (h.p j hj), fun k hk => by simp only [hrole', if_pos hk], hh, fun k hk => by simp only [hrole', if_neg (fun e => hcb k e hk), if_pos hk], hc, keepR _ _ h.rw (by simp) (by simp),
    fun o => (sw.froz o).trans (h.fw o), fun i hi => (sw.cell _).trans (h.wk i hi), fun k hk => keepR _ _ (h.ro k hk) (by simp) (by simp), own_same h.oo fun b hb => same b _ (h.ro b hb) (by simp) (by simp) (by simp), ⟨by simp, by simp only; omega⟩, fun i hi => Nat.lt_succ_of_lt (h.wkr i hi), fun i hi => by have := h.innr i hi; simp only; omega⟩, ⟨rfl, ?_, fun k hk => ?_⟩⟩
  · simp only [hrole'] at hk
    split at hk
    · rename_i h1
      exact (hh.lt k h1).2
    · split at hk
      · rename_i h1
        exact (hc.lt k h1).2
      · have := h.lt k hk; have := ho.size; omega
  · exact ⟨ho.os, ho.tape, ho.output, ho.size, fun k hk hs => ho.block k hk (fun e => hs (e.elim (fun e => by rw [e, h.rg]; exact fun e => by cases e) (fun e => e.elim (fun e => by rw [h.rh _ e]; exact fun e => by cases e) (fun e => by rw [h.rc _ e]; exact fun e => by cases e))))⟩
  · simp only [hrole'] at hk
    split at hk
    · rename_i h1
      rcases hb _ h1 with h2 | h2
      · exact .inl (by rw [h.rh _ h2]; exact fun e => by cases e)
      · exact .inr h2
    · split at hk
      · rename_i h1
        rcases cb _ h1 with h2 | h2
        · exact .inl (by rw [h.rc _ h2]; exact fun e => by cases e)
        · exact .inr h2
      · exact .inl hk
set_option maxHeartbeats 1000000 in
theorem xdomain_bad (h : XAt w X s) (hard : Bool) (cap : Int) (hb : cap < 0 ∨ 1048576 < cap) : Calls Try.prog 51 #[.pointer (some ⟨X.g, 0, none⟩), .bool hard, .int .i64 cap] w (XTurn2 w X s) := by
  have HX := Lib.hid h
  generalize X.g = g at *
  clear h
  by_cases h1 : cap < 0
  · have d1 : decide (cap < 0) = true := decide_eq_true h1
    clear hb h1
    go_enter Try.func51, Try.ntmps51
    go_wp2_with fail
    go_ret2
    exact ⟨⟨0, 1, rfl⟩, XKeep.same HX.out (Below.refl _ _)⟩
  · have d1 : decide (cap < 0) = false := decide_eq_false h1
    have d2 : decide (1048576 < cap) = true := decide_eq_true (by omega)
    clear hb h1
    go_enter Try.func51, Try.ntmps51
    go_wp2_with fail
    go_ret2
    exact ⟨⟨0, 1, rfl⟩, XKeep.same HX.out (Below.refl _ _)⟩
set_option maxHeartbeats 1000000 in
theorem xdomain_full (h : XAt w X s) (hard : Bool) (cap : Int) (hb : ¬ (cap < 0 ∨ 1048576 < cap)) (hf : s.nd = 8) : Calls Try.prog 51 #[.pointer (some ⟨X.g, 0, none⟩), .bool hard, .int .i64 cap] w (XTurn2 w X s) := by
  have HX := Lib.hid h
  obtain ⟨cb, cc, ecv, clb, clc, hcc⟩ := xcap_shape h
  have x := h.cv
  rw [ecv, hf] at x
  have lg := h.glt
  have d1 : decide (cap < 0) = false := decide_eq_false (by omega)
  have d2 : decide (1048576 < cap) = false := decide_eq_false (by omega)
  generalize X.g = g at *
  clear h hb ecv hf hcc
  go_enter Try.func51, Try.ntmps51
  go_wp2_with fail
  go_ret2
  exact ⟨⟨0, 13, rfl⟩, XKeep.same HX.out (Below.refl _ _)⟩
set_option maxHeartbeats 4000000 in
theorem xdomain_add (h : XAt w X s) (hard : Bool) (cap : Int) (hb : ¬ (cap < 0 ∨ 1048576 < cap)) (hf : ¬ s.nd = 8) : Calls Try.prog 51 #[.pointer (some ⟨X.g, 0, none⟩), .bool hard, .int .i64 cap] w (XTurn2 w X s) := by
  have HX := Lib.hid h
  obtain ⟨bi0, binf, bz0, bz1, bz2⟩ := info_parts xinfoBool
  obtain ⟨ii0, iinf, iz0, iz1, iz2⟩ := info_parts infoInt
  obtain ⟨hb', hc, ehv, hlb, hlc, _⟩ := xhard_shape h
  obtain ⟨cb, cc, ecv, clb, clc, _⟩ := xcap_shape h
  have x1 := h.hv
  have x2 := h.cv
  have f1 := h.fg 1
  have f2 := h.fg 2
  have oh := h.oh
  have oc := h.oc
  rw [ehv] at x1 oh
  rw [ecv] at x2 oc
  have lg := h.glt
  have hbg1 : hb' ≠ X.g := x_ne (h.rh _ (by rw [ehv]; rfl)) h.rg (by simp)
  have hbg2 : cb ≠ X.g := x_ne (h.rc _ (by rw [ecv]; rfl)) h.rg (by simp)
  have hbc : hb' ≠ cb := x_ne (h.rh _ (by rw [ehv]; rfl)) (h.rc _ (by rw [ecv]; rfl)) (by simp)
  have d1 : decide (cap < 0) = false := decide_eq_false (by omega)
  have d2 : decide (1048576 < cap) = false := decide_eq_false (by omega)
  have hn8 : s.nd < 8 := by have := h.nd.2; omega
  have d3 : ((s.nd : Int) == 8) = false := by rw [beq_eq_false_iff_ne]; omega
  have HE1 := Lib.hid ehv
  have HE2 := Lib.hid ecv
  have HOH := Lib.hid oh
  have HOC := Lib.hid oc
  have H8 := Lib.hid hn8
  have HBC := Lib.hid hbc
  generalize hnd : s.nd = nd at *
  have HND := Lib.hid hnd
  obtain ⟨g, hg⟩ : ∃ g, g = X.g := ⟨_, rfl⟩
  rw [← hg] at x1 x2 f1 f2 lg hbg1 hbg2 ⊢
  have HG := Lib.hid hg
  clear h hb ehv ecv oh oc hf hg hnd hbc
  go_enter Try.func51, Try.ntmps51
  go_upto_region 6 with (at_builtin; (refine wpList_append_lies _ rfl _ _ 100 rfl 0 4 bi0 (.bool false) 1 1 Try.underlying100 binf bz0 bz1 bz2 rfl (by decide) (.slice (some ⟨hb', 0, none⟩) nd hc) nd (bools s.hard) rfl (HOH.out.alloc _) ⟨w.heap.size, 0, none⟩ 1 1 [.bool hard] rfl rfl (new_one (.bool hard) _ _) (one_cell1 (by rfl)) (by omega) (by unfold maxLen; omega) (by omega) (Nat.zero_le _) (w.heap.size + 1) (by simp) ?_); intro g3 c3 w3 hown3 hgrow hat _; have s0 := hgrow.cell (cell_alloc (o := .cells #[.bool hard] 4) x1) (fun e => hbg1 (Option.some.inj e).symm); have sf := (World.frozen?_of_block (a := ⟨g, 1, none⟩) (hgrow.block g (by simp; omega) (fun e => hbg1 (Option.some.inj e).symm))).trans ((World.frozen?_alloc_old _ _ _ (by simp; omega)).trans f1); have sl := cell_lt s0; have HW := Lib.hid hown3; have HGR := Lib.hid hgrow; have HAT := Lib.hid hat; clear hown3 hgrow hat)
  have P1 : Put w g 1 hb' (w3.setCell ⟨g, 1, none⟩ (.slice (some ⟨g3, 0, none⟩) (nd + 1) c3)) (.slice (some ⟨g3, 0, none⟩) (nd + 1) c3) := put_of lg hbg1 HGR.out s0
  have hg3 : g3 = hb' ∨ g3 = w.heap.size + 1 := by
    rcases HAT.out with h1 | h1
    · exact .inl (Option.some.inj h1).symm
    · exact .inr h1
  have hg3g : g3 ≠ g := by rcases hg3 with h | h <;> omega
  have hg3c : g3 ≠ cb := by
    have := HBC.out
    rcases hg3 with h | h <;> omega
  have o1 : (w3.setCell ⟨g, 1, none⟩ (.slice (some ⟨g3, 0, none⟩) (nd + 1) c3)).ownsRow 0 4 1 (.slice (some ⟨g3, 0, none⟩) (nd + 1) c3) (nd + 1) (bools s.hard ++ [.bool hard]) :=
    own_same HW.out fun b e => by cases e; exact Below.heap_setCell _ _ _ _ hg3g
  have x2a := (P1.gc 2 (by omega)).trans x2
  have f2a := (P1.gf 2).trans f2
  generalize w3.setCell ⟨g, 1, none⟩ (.slice (some ⟨g3, 0, none⟩) (nd + 1) c3) = wa at *
  have oc1 : wa.ownsRow 0 3 1 (.slice (some ⟨cb, 0, none⟩) nd cc) nd (ints s.cap) := own_same HOC.out fun b e => by
    cases e
    exact P1.only.block cb clb (by have := HBC.out; omega)
  have lga : g < wa.heap.size := cell_lt x2a
  have hsza := P1.only.size
  have HP1 := Lib.hid P1
  have HO1 := Lib.hid o1
  have HOC1 := Lib.hid oc1
  have HG3 := Lib.hid hg3
  have HG3C := Lib.hid hg3c
  have x2 := x2a
  have f2 := f2a
  have LGA := Lib.hid lga
  clear HW HGR HAT s0 sf sl P1 hg3 o1 x1 oc1 hg3g hg3c
  clear x2a f2a
  go_wp2_with (at_builtin; (refine wpList_append_lies _ rfl _ _ 46 rfl 0 3 ii0 (.int .i64 0) 1 8 Try.underlying46 iinf iz0 iz1 iz2 rfl (by decide) (.slice (some ⟨cb, 0, none⟩) nd cc) nd (ints s.cap) rfl (HOC1.out.alloc _) ⟨wa.heap.size, 0, none⟩ 1 1 [.int .i64 cap] rfl rfl (new_one (.int .i64 cap) _ _) (one_cell1 (by rfl)) (by omega) (by unfold maxLen; omega) (by omega) (Nat.zero_le _) (wa.heap.size + 1) (by simp) ?_); intro g4 c4 w4 hown3 hgrow hat _; have s0 := hgrow.cell (cell_alloc (o := .cells #[.int .i64 cap] 3) x2) (fun e => hbg2 (Option.some.inj e).symm); have sf := (World.frozen?_of_block (a := ⟨g, 2, none⟩) (hgrow.block g (by simp; omega) (fun e => hbg2 (Option.some.inj e).symm))).trans ((World.frozen?_alloc_old _ _ _ (by simp; omega)).trans f2); have sl := cell_lt s0; have HW := Lib.hid hown3; have HGR := Lib.hid hgrow; have HAT := Lib.hid hat; clear hown3 hgrow hat)
  go_ret2
  have P2 : Put wa g 2 cb (w4.setCell ⟨g, 2, none⟩ (.slice (some ⟨g4, 0, none⟩) (nd + 1) c4)) (.slice (some ⟨g4, 0, none⟩) (nd + 1) c4) := put_of LGA.out hbg2 HGR.out s0
  have hg4 : g4 = cb ∨ g4 = wa.heap.size + 1 := by
    rcases HAT.out with h1 | h1
    · exact .inl (Option.some.inj h1).symm
    · exact .inr h1
  have lga := LGA.out
  have hg4g : g4 ≠ g := by rcases hg4 with h | h <;> omega
  have o2 : (w4.setCell ⟨g, 2, none⟩ (.slice (some ⟨g4, 0, none⟩) (nd + 1) c4)).ownsRow 0 3 1 (.slice (some ⟨g4, 0, none⟩) (nd + 1) c4) (nd + 1) (ints s.cap ++ [.int .i64 cap]) :=
    own_same HW.out fun b e => by cases e; exact Below.heap_setCell _ _ _ _ hg4g
  generalize w4.setCell ⟨g, 2, none⟩ (.slice (some ⟨g4, 0, none⟩) (nd + 1) c4) = wb at *
  have l3 : g3 < wa.heap.size := (HO1.out.lt g3 rfl).2
  have hg3g : g3 ≠ g := by rcases HG3.out with h | h <;> omega
  have hg3c := HG3C.out
  have O1 : Only w wa fun k => k = X.g ∨ X.hv.ownBlock = some k ∨ X.cv.ownBlock = some k := ⟨HP1.out.only.os, HP1.out.only.tape, HP1.out.only.output, HP1.out.only.size, fun k hk hs => HP1.out.only.block k hk (fun e => hs (e.elim (fun e => .inl (e.trans HG.out)) (fun e => .inr (.inl (by rw [HE1.out, e]; rfl)))))⟩
  have O2 : Only wa wb fun k => k = X.g ∨ X.hv.ownBlock = some k ∨ X.cv.ownBlock = some k := ⟨P2.only.os, P2.only.tape, P2.only.output, P2.only.size, fun k hk hs => P2.only.block k hk (fun e => hs (e.elim (fun e => .inl (e.trans HG.out)) (fun e => .inr (.inr (by rw [HE2.out, e]; rfl)))))⟩
  have eh : bools (s.hard ++ [hard]) = bools s.hard ++ [.bool hard] := by simp [bools]
  have ec : ints (s.cap ++ [cap]) = ints s.cap ++ [.int .i64 cap] := by simp [ints]
  obtain ⟨X', h3, n3⟩ := HX.out.addDom (w' := wb) (hv' := .slice (some ⟨g3, 0, none⟩) (nd + 1) c3) (cv' := .slice (some ⟨g4, 0, none⟩) (nd + 1) c4) (hard' := s.hard ++ [hard]) (cap' := s.cap ++ [cap])
    (O1.trans O2 fun i hi _ => hi)
    (fun o => by rw [← HG.out]; exact (P2.gf o).trans (HP1.out.gf o))
    (fun o ho1 ho2 => by rw [← HG.out]; exact (P2.gc o ho2).trans (HP1.out.gc o ho1))
    (by rw [← HG.out]; exact (P2.gc 1 (by omega)).trans HP1.out.at_)
    (by rw [← HG.out]; exact P2.at_)
    (by rw [HND.out, eh]; exact own_same HO1.out fun b e => by have e' : g3 = b := Option.some.inj e; subst e'; exact P2.only.block g3 l3 (by omega))
    (by rw [HND.out, ec]; exact o2)
    (fun k e => by
      have e' : g3 = k := Option.some.inj e
      subst e'
      rcases HG3.out with h1 | h1
      · exact .inl (by rw [HE1.out, h1]; rfl)
      · exact .inr (by omega))
    (fun k e => by
      have e' : g4 = k := Option.some.inj e
      subst e'
      rcases hg4 with h1 | h1
      · exact .inl (by rw [HE2.out, h1]; rfl)
      · exact .inr (by have := HP1.out.only.size; omega))
    (fun k e1 e2 => by
      have e1' : g3 = k := Option.some.inj e1
      subst e1'
      have e2' : g4 = g3 := Option.some.inj e2
      rcases hg4 with h1 | h1 <;> omega)
    (by rw [HND.out]; exact H8.out)
  exact ⟨⟨nd, 0, by first | rfl | (refine ret2 ?_ rfl; first | rfl | (congr 1; omega) | simp)⟩, X', _, h3, n3, by simp, by simp⟩
theorem xdomain_any (h : XAt w X s) (hard : Bool) (cap : Int) : Calls Try.prog 51 #[.pointer (some ⟨X.g, 0, none⟩), .bool hard, .int .i64 cap] w (XTurn2 w X s) := by
  by_cases hb : cap < 0 ∨ 1048576 < cap
  · exact xdomain_bad h hard cap hb
  · by_cases hf : s.nd = 8
    · exact xdomain_full h hard cap hb hf
    · exact xdomain_add h hard cap hb hf
end
end Go.Proofs.Ytmcilmmnpolieaa
/- The document's answer's New: what it lays. Each theorem's premises are its conditions. -/
namespace Go.Proofs.Ytmcilmmnpolieaa
open Go.ChangeShapes Go.WideShapes Go.ChangeAt Go.RowKit Go.Shelf Go.Deep

theorem z261 : Try.zeroCells104 = #[.int .i64 0, .slice none 0 0, .slice none 0 0, .slice none 0 0] ++ Array.replicate 256 (.int .i64 0) ++ #[.slice none 0 0] := by kernel_rfl
def newXLay (s : Nat) : XLay where
  role := fun k => if k = s then some .hard else if k = s + 1 then some .cap else if k = s + 2 then some .wks else if k = s + 3 then some .led else none
  g := s + 3
  hv := .slice (some ⟨s, 0, none⟩) 1 1
  cv := .slice (some ⟨s + 1, 0, none⟩) 1 1
  wb := s + 2
  ov := .slice none 0 0
def newXS : XS where
  nd := 1
  now := 0
  hard := [false]
  cap := [1048576]
  wk := fun _ => 0
  inn := fun _ => 0
  p := fun _ => 0
  cnt := 0
  ow := []
theorem newXLay_role (s : Nat) : ∀ k, (newXLay s).role k ≠ none → s ≤ k := fun k h => by
  unfold newXLay at h
  simp only at h
  repeat' split at h
  all_goals first | omega | (exact absurd rfl h)
noncomputable def XOBJ (s : Nat) : Array Value := ((Try.zeroCells104.setIfInBounds 1 (.slice (some ⟨s, 0, none⟩) 1 1)).setIfInBounds 2 (.slice (some ⟨s + 1, 0, none⟩) 1 1)).setIfInBounds 3 (.slice (some ⟨s + 1 + 1, 0, none⟩) 3 3)
theorem xobj_lo (s o : Nat) (h : 4 ≤ o) (h2 : o < 260) : (XOBJ s)[o]? = some (.int .i64 0) := by
  unfold XOBJ
  rw [z261, Array.getElem?_setIfInBounds_ne (by omega), Array.getElem?_setIfInBounds_ne (by omega), Array.getElem?_setIfInBounds_ne (by omega), Array.getElem?_append_left (by simp; omega), Array.getElem?_append_right (by simp; omega)]
  rw [Array.getElem?_replicate, if_pos (by simp; omega)]
theorem xobj_ov (s : Nat) : (XOBJ s)[260]? = some (.slice none 0 0) := by
  unfold XOBJ
  rw [z261, Array.getElem?_setIfInBounds_ne (by omega), Array.getElem?_setIfInBounds_ne (by omega), Array.getElem?_setIfInBounds_ne (by omega), Array.getElem?_append_right (by simp)]
  simp
theorem xobj_hi (s : Nat) : (XOBJ s)[0]? = some (.int .i64 0) ∧ (XOBJ s)[1]? = some (.slice (some ⟨s, 0, none⟩) 1 1) ∧ (XOBJ s)[2]? = some (.slice (some ⟨s + 1, 0, none⟩) 1 1) ∧ (XOBJ s)[3]? = some (.slice (some ⟨s + 1 + 1, 0, none⟩) 3 3) := by
  unfold XOBJ
  rw [z261]
  refine ⟨?_, ?_, ?_, ?_⟩ <;> simp
theorem xfresh_at (w : World) : XAt ((((w.alloc (.cells #[.bool false] 4)).alloc (.cells #[.int .i64 1048576] 3)).alloc (.cells (madeCells #[.int .i64 0] 3) 3)).alloc (.cells (XOBJ w.heap.size) 104)) (newXLay w.heap.size) newXS := by
  obtain ⟨W, hW⟩ : ∃ W, W = (((w.alloc (.cells #[.bool false] 4)).alloc (.cells #[.int .i64 1048576] 3)).alloc (.cells (madeCells #[.int .i64 0] 3) 3)).alloc (.cells (XOBJ w.heap.size) 104) := ⟨_, rfl⟩
  rw [← hW]
  have hs : W.heap.size = w.heap.size + 4 := by rw [hW]; simp
  have h0 : W.heap[w.heap.size]? = some (.cells #[.bool false] 4) := by
    rw [hW, Below.heap_alloc _ _ _ (by simp <;> omega), Below.heap_alloc _ _ _ (by simp <;> omega), Below.heap_alloc _ _ _ (by simp)]
    exact heap_alloc_new _ _
  have h1 : W.heap[w.heap.size + 1]? = some (.cells #[.int .i64 1048576] 3) := by
    rw [hW, Below.heap_alloc _ _ _ (by simp <;> omega), Below.heap_alloc _ _ _ (by simp)]
    have := heap_alloc_new (w.alloc (.cells #[.bool false] 4)) (.cells #[.int .i64 1048576] 3)
    rwa [World.size_alloc] at this
  have h2 : W.heap[w.heap.size + 2]? = some (.cells (madeCells #[.int .i64 0] 3) 3) := by
    rw [hW, Below.heap_alloc _ _ _ (by simp)]
    have := heap_alloc_new ((w.alloc (.cells #[.bool false] 4)).alloc (.cells #[.int .i64 1048576] 3)) (.cells (madeCells #[.int .i64 0] 3) 3)
    rwa [World.size_alloc, World.size_alloc] at this
  have h3 : W.heap[w.heap.size + 3]? = some (.cells (XOBJ w.heap.size) 104) := by
    rw [hW]
    have := heap_alloc_new (((w.alloc (.cells #[.bool false] 4)).alloc (.cells #[.int .i64 1048576] 3)).alloc (.cells (madeCells #[.int .i64 0] 3) 3)) (.cells (XOBJ w.heap.size) 104)
    rwa [World.size_alloc, World.size_alloc, World.size_alloc] at this
  clear hW
  generalize w.heap.size = s at *
  have c2 := cell_of_obj h2
  have c3 := cell_of_obj h3
  obtain ⟨e0, e1, e2, e3⟩ := xobj_hi s
  refine ⟨fun k hk => by
      rw [hs]
      unfold newXLay at hk
      simp only at hk
      repeat' split at hk
      all_goals first | omega | (exact absurd rfl hk), by simp [newXLay], froz_of_obj h3, (c3 0).trans e0, (c3 1).trans e1, (c3 2).trans e2, (c3 3).trans e3, (c3 260).trans (xobj_ov s), fun i hi => (c3 _).trans (xobj_lo s _ (by omega) (by omega)), fun j hj => (c3 _).trans (xobj_lo s _ (by omega) (by omega)), fun k hk => ?_, ?_, fun k hk => ?_, ?_, by simp [newXLay], froz_of_obj h2, fun i hi => ?_, fun k hk => (by cases hk), ⟨rfl, .inl ⟨rfl, rfl⟩⟩, ⟨by simp [newXS], by simp [newXS]⟩, fun i hi => by simp [newXS], fun i hi => by simp [newXS]⟩
  · cases hk
    simp [newXLay]
  · exact ⟨rfl, .inr ⟨s, 1, _, rfl, Nat.zero_le _, h0, Nat.le_refl _, by unfold maxLen; omega, rfl, rfl⟩⟩
  · cases hk
    simp [newXLay]
  · exact ⟨rfl, .inr ⟨s + 1, 1, _, rfl, Nat.zero_le _, h1, Nat.le_refl _, by unfold maxLen; omega, rfl, rfl⟩⟩
  · refine (c2 i).trans ?_
    simp [madeCells, hi, Nat.mod_one, newXS]
set_option maxRecDepth 100000 in
set_option maxHeartbeats 4000000 in
theorem xnew3 (w : World) : Calls Try.prog 26 #[.int .i64 3] w fun e w' => ∃ X s, e = .returned (.pointer (some ⟨X.g, 0, none⟩)) ∧ XAt w' X s ∧ s.cnt = 0 ∧ Below w.heap.size w w' ∧ ∀ k, X.role k ≠ none → w.heap.size ≤ k := by
  have hmk : ∀ w, (Instr.makeSlice 46 (.int .i64 3) (.int .i64 3)).run Try.prog w = .ok (.slice (some ⟨w.heap.size, 0, none⟩) 3 3) (w.alloc (.cells (madeCells #[.int .i64 0] 3) 3)) := fun w => by
    have h := run_make_row' (P := Try.prog) 46 3 (.int .i64 0) 8 Try.underlying46 infoInt rfl .i64 .i64 3 (by omega) (by omega) w
    simp only [Int.cast_ofNat_Int] at h
    exact h
  go_enter Try.func26, Try.ntmps26
  go_wp2_with fail
  go_loopg [4] 64 (fun kx s4 wr => ∃ (k : Nat) (s' : XS), s4 = .int .i64 k ∧ k ≤ 64 ∧ 64 - k ≤ kx ∧ Hid (XAt wr (newXLay w.heap.size) s' ∧ s'.cnt = 0 ∧ Below w.heap.size w wr))
  case atStart => exact ⟨0, newXS, rfl, by omega, by omega, xfresh_at w, rfl, by (repeat (first | with_reducible refine bel_alloc ?_ | with_reducible refine bel_drew ?_)); exact Below.refl _ _⟩
  case round =>
    obtain ⟨k, s', rfl, hk, hkx, HI⟩ := hrel
    have lg := HI.out.1.glt
    by_cases hlt : k < 64
    · have hltz : (k : Int) < 64 := by omega
      have x := HI.out.1.inn k hlt
      have fx := HI.out.1.fg (4 + k)
      have HN : Hid (XAt (wr.setCell ⟨w.heap.size + 3, 4 + k, none⟩ (.int .i64 (-1))) (newXLay w.heap.size) { s' with inn := upd s'.inn k (-1) } ∧ ({ s' with inn := upd s'.inn k (-1) } : XS).cnt = 0 ∧ Below w.heap.size w (wr.setCell ⟨w.heap.size + 3, 4 + k, none⟩ (.int .i64 (-1)))) :=
        ⟨HI.out.1.setIn hlt (-1) ⟨by omega, by have := HI.out.1.nd; omega⟩, HI.out.2.1, HI.out.2.2.setCell (by show w.heap.size ≤ w.heap.size + 3; omega) _⟩
      simp only [newXLay] at x fx lg
      generalize s'.inn k = z at *
      go_wp2_with fail
      go_roundg (64 - (k + 1))
      case measure => omega
      case rel => exact ⟨k + 1, _, by first | rfl | (congr 1; done) | (congr 1; omega) | (simp; omega), by omega, Nat.le_refl _, HN.out⟩
    · obtain rfl : k = 64 := by omega
      simp only [newXLay] at lg
      go_wp2_with fail
      go_ret
      exact ⟨newXLay w.heap.size, s', rfl, HI.out.1, HI.out.2.1, HI.out.2.2, newXLay_role _⟩
end Go.Proofs.Ytmcilmmnpolieaa
