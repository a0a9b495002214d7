/- The document's answer's Leave: it leaves one behind. The document's answer's Go: it leaves one behind. The document's answer's Move: it leaves one behind. The document's answer's Worker: it leaves one behind. Each theorem's premises are its conditions. -/
import Derived.Test.YtmcilmmnpolieaaK27
import Derived.Deep.RegionLaw
/- The document's answer's Leave: it leaves one behind. Each theorem's premises are its conditions. -/
namespace Go.Proofs.Ytmcilmmnpolieaa
open Go.ChangeShapes Go.WideShapes Go.ChangeAt Go.RowKit Go.Shelf Go.Deep

theorem Try.infoXOwe : (Try.prog.info? 113).map (fun i => (i.zero, i.size, i.bytes)) = some (some (.agg #[.int .i64 0, .int .i64 0, .int .i64 0, .int .i64 0, .int .i64 0, .int .i64 0]), 6, 48) := by kernel_rfl
theorem ints_one (l : List Int) : ∀ u ∈ ints l, u.oneCell' = true := by
  intro u hu
  simp only [ints, List.mem_map] at hu
  obtain ⟨z, _, rfl⟩ := hu
  rfl
theorem new_row6 (z : List Int) (U : World) : ∀ j u, (ints z)[j]? = some u → (U.alloc (.cells (ints z).toArray 113)).cell? ((Addr.mk U.heap.size 0 none).add j) = some u := by
  intro j u hj
  have e : (Addr.mk U.heap.size 0 none).add j = ⟨U.heap.size, j, none⟩ := by unfold Addr.add; split <;> simp_all
  rw [e, cell_new]
  simpa using hj
section
variable {w : World} {X : XLay} {s : XS}
/-- the answer with another row of what is owed. -/
theorem XAt.setOv {w3 : World} (h : XAt w X s) {v' : Value} {cnt' : Nat} {ow' : List Int} (ho : Only w w3 fun k => k = X.g ∨ X.ov.ownBlock = some k) (gc : ∀ o, o ≠ 260 → w3.cell? ⟨X.g, o, none⟩ = w.cell? ⟨X.g, o, none⟩) (gf : ∀ o, w3.frozen? ⟨X.g, o, none⟩ = w.frozen? ⟨X.g, o, none⟩) (g3 : w3.cell? ⟨X.g, 260, none⟩ = some v')
    (hv : w3.ownsRow 0 113 6 v' cnt' (ints ow')) (hb : ∀ k, v'.ownBlock = some k → X.ov.ownBlock = some k ∨ w.heap.size ≤ k) :
    ∃ X', XAt w3 X' { s with cnt := cnt', ow := ow' } ∧ XNext w X w3 X' := by
  have same : ∀ k r, X.role k = some r → r ≠ .led → r ≠ .owed → Same w w3 k := fun k r hk h1 h2 =>
    ho.block k (h.role_lt hk) (fun e => e.elim (x_ne hk h.rg h1) (fun e => x_ne hk (h.ro _ e) h2 rfl))
  obtain ⟨role', hrole'⟩ : ∃ role' : Nat → Option XRole, role' = fun k => if v'.ownBlock = some k then some .owed else X.role k := ⟨_, rfl⟩
  have keepR : ∀ k r, X.role k = some r → r ≠ .owed → role' k = some r := fun k r hk h1 => by
    rw [hrole']
    simp only
    rw [if_neg (fun e => ?_)]
    · exact hk
    · rcases hb _ e with h2 | h2
      · exact x_ne hk (h.ro _ h2) h1 rfl
      · have := h.role_lt hk; omega
  have sw := same _ _ h.rw (by simp) (by simp)
  refine ⟨{ X with role := role', ov := v' }, ⟨fun k hk => ?_, keepR _ _ h.rg (by simp), fun o => (gf o).trans (h.fg o), (gc _ (by omega)).trans h.now, (gc _ (by omega)).trans h.hv, (gc _ (by omega)).trans h.cv, (gc _ (by omega)).trans h.wv, g3,
    fun i hi => (gc _ (by omega)).trans (h.inn i hi), fun j hj => (gc _ (by omega)).trans (h.p j hj), fun k hk => keepR _ _ (h.rh k hk) (by simp), own_same h.oh fun b hb => same b _ (h.rh b hb) (by simp) (by simp), fun k hk => keepR _ _ (h.rc k hk) (by simp), own_same h.oc fun b hb => same b _ (h.rc b hb) (by simp) (by simp), keepR _ _ h.rw (by simp),
    fun o => (sw.froz o).trans (h.fw o), fun i hi => (sw.cell _).trans (h.wk i hi), fun k hk => by simp only [hrole', if_pos hk], hv, h.nd, h.wkr, h.innr⟩, ⟨rfl, ?_, fun k hk => ?_⟩⟩
  · simp only [hrole'] at hk
    split at hk
    · rename_i h1
      exact (hv.lt k h1).2
    · have := h.lt k hk; have := ho.size; omega
  · exact ⟨ho.os, ho.tape, ho.output, ho.size, fun k hk hs => ho.block k hk (fun e => hs (e.elim (fun e => by rw [e, h.rg]; exact fun e => by cases e) (fun e => by rw [h.ro _ e]; exact fun e => by cases e)))⟩
  · simp only [hrole'] at hk
    split at hk
    · rename_i h1
      rcases hb _ h1 with h2 | h2
      · exact .inl (by rw [h.ro _ h2]; exact fun e => by cases e)
      · exact .inr h2
    · exact .inl hk
/-- behind an append whose slice goes into the answer. -/
def XApp (wc : World) (g : Nat) (v : Value) (n : Nat) (ow z : List Int) (wx : World) : Prop :=
  ∃ gg cap w11, wx = w11.setCell ⟨g, 260, none⟩ (.slice (some ⟨gg, 0, none⟩) (n + 1) cap) ∧ w11.ownsRow 0 113 6 (.slice (some ⟨gg, 0, none⟩) (n + 1) cap) (n + 1) (ints ow ++ ints z) ∧
    (wc.drew.alloc (.cells (ints z).toArray 113)).grownBy w11 v.ownBlock ∧ (v.ownBlock = some gg ∨ wc.heap.size ≤ gg) ∧ w11.cell? ⟨g, 260, none⟩ = some v
theorem XApp.at (h : XAt w X s) {z : List Int} {wx : World} (a : XApp w X.g X.ov s.cnt s.ow z wx) : ∃ X', XAt wx X' { s with cnt := s.cnt + 1, ow := s.ow ++ z } ∧ XNext w X wx X' := by
  obtain ⟨gg, cap, w11, rfl, o11, hgrow, hat, s0⟩ := a
  have lg := h.glt
  have hvg : X.ov.ownBlock ≠ some X.g := fun e => x_ne (h.ro _ e) h.rg (by simp) rfl
  have hgd : gg ≠ X.g := fun e => by
    rcases hat with h1 | h1
    · exact hvg (by rw [h1, e])
    · omega
  have hsc : Same w w11 X.g := (hgrow.block X.g (by simp; omega) (fun e => hvg e.symm)).trans (Below.heap_alloc _ _ _ lg)
  have o1 : Only w w11 fun k => k = X.g ∨ X.ov.ownBlock = some k := (Only.of_below (bel_alloc (bel_drew (Below.refl w.heap.size w)))).grown hgrow fun k e => .inl (.inr e)
  refine h.setOv (o1.set (a := ⟨X.g, 260, none⟩) (.inl (.inl rfl)) _) (fun o ho => (set_other ho).trans (hsc.cell o)) (fun o => (World.frozen?_setCell _ _ _ _).trans (hsc.froz o)) (World.cell?_setCell_same _ _ _ s0) (own_same (xs := ints (s.ow ++ z)) ?_ fun b e => by cases e; exact Below.heap_setCell _ _ _ _ hgd) (fun k e => by cases e; exact hat)
  have : ints (s.ow ++ z) = ints s.ow ++ ints z := by simp [ints]
  rw [this]
  exact o11
set_option maxHeartbeats 4000000 in
set_option maxRecDepth 100000 in
theorem xleave_later (h : XAt w X s) (hcn : s.cnt ≤ 900) (i : Nat) (hi : i < 64) (tm : Int) (hck : clockS tm = true) (hz0 : ¬ s.inn i < 0) (hlt : s.now < tm) : Calls Try.prog 47 #[.pointer (some ⟨X.g, 0, none⟩), .int .i64 i, .int .i64 tm] w (XTurn w X s) := by
  have SV := Lib.hid (fun W => xserver_any i W)
  rw [decide_eq_true (show (0 : Int) ≤ i by omega), decide_eq_true (show (i : Int) < 64 by omega)] at SV
  have CK := Lib.hid (fun W => xclock_any tm W)
  rw [hck] at CK
  have hiz : (i : Int) < 64 := by omega
  have HX := Lib.hid h
  have x := h.inn i hi
  have x0 := h.now
  have lg := h.glt
  have d1 : decide (s.inn i < 0) = false := decide_eq_false hz0
  have d2 : decide (s.now < tm) = true := decide_eq_true hlt
  obtain ⟨i0, hinf, hq0, hq1, hq2⟩ := info_parts Try.infoXOwe
  obtain ⟨oa, ocap, eov, hoc, _⟩ := xowed_shape h
  have xo := h.ov
  have fo := h.fg 260
  have fi := h.fg (4 + i)
  have p0 := h.p (i * 3) (by omega)
  have p1 := h.p (i * 3 + 1) (by omega)
  have p2 := h.p (i * 3 + 2) (by omega)
  simp only [← Nat.add_assoc] at p1 p2
  rw [eov] at xo
  have hvg : (Value.slice oa s.cnt ocap).ownBlock ≠ some X.g := fun e => x_ne (h.ro _ (by rw [eov]; exact e)) h.rg (by simp) rfl
  have hown := h.oo
  rw [eov] at hown
  have HE := Lib.hid eov
  have HO := Lib.hid hown
  have HCN := Lib.hid hcn
  generalize hzi : s.inn i = zi at *
  generalize s.now = sn at *
  generalize s.p (i * 3) = z0 at *
  generalize s.p (i * 3 + 1) = z1 at *
  generalize s.p (i * 3 + 2) = z2 at *
  generalize hcnt : s.cnt = cnt at *
  obtain ⟨g, hg⟩ : ∃ g, g = X.g := ⟨_, rfl⟩
  rw [← hg] at x x0 lg xo fo fi p0 p1 p2 hvg ⊢
  have HG := Lib.hid hg
  have HCT := Lib.hid hcnt
  clear h hck hz0 hlt eov hown hzi hcnt hg
  go_enter Try.func47, Try.ntmps47
  go_wp2_with fail
  refine (SV.out _).mono ?_
  rintro e w1 ⟨rfl, hw1⟩
  obtain rfl := hw1.symm
  go_wp2_with fail
  refine (CK.out _).mono ?_
  rintro e w1 ⟨rfl, hw1⟩
  obtain rfl := hw1.symm
  go_wp2_with fail
  go_upto_region 6 with fail
  go_cut [6] from 28 to 51 (fun s6 wx => s6 = .int .i64 0 ∧ XApp w g (.slice oa cnt ocap) cnt s.ow [(i : Int), zi, tm, z0, z1, z2] wx)
  case first =>
    go_region_law (refine step_append_lies _ rfl (.tmp 32) (.tmp 48) 102 rfl 0 113 i0 (.agg #[.int .i64 0, .int .i64 0, .int .i64 0, .int .i64 0, .int .i64 0, .int .i64 0]) 6 48 Try.underlying102 hinf hq0 hq1 hq2 rfl (by decide) (.slice oa cnt ocap) cnt (ints s.ow) rfl (World.ownsRow.alloc (World.ownsRow.drew HO.out) _) ⟨w.heap.size, 0, none⟩ 1 1 (ints [(i : Int), zi, tm, z0, z1, z2]) rfl rfl (new_row6 [(i : Int), zi, tm, z0, z1, z2] w.drew) (ints_one _) (by omega) (by unfold maxLen; omega) (by omega) (Nat.zero_le _) _ rfl ?_; intro g2 cap2 w11 hown11 hgrow hat hlt2; have s0 := (hgrow.cell_far ⟨g, 260, none⟩ (by simp; omega) (Ne.symm hvg)).trans (cell_alloc (o := .cells #[.int .i64 i, .int .i64 zi, .int .i64 tm, .int .i64 z0, .int .i64 z1, .int .i64 z2] 113) (show w.drew.cell? ⟨g, 260, none⟩ = _ from xo)); have sf := (hgrow.frozen_far ⟨g, 260, none⟩ (by simp; omega) (Ne.symm hvg)).trans ((World.frozen?_alloc_old _ _ _ (by show g ≠ _; simp; omega)).trans (show w.drew.frozen? ⟨g, 260, none⟩ = false from fo)); have sl : g < w11.heap.size := cell_lt s0)
    all_goals go_wp2_with fail
    all_goals go_meet
    all_goals exact ⟨rfl, g2, cap2, w11, rfl, hown11, hgrow, hat.imp id (fun e => by rw [e]; simp), s0⟩
  case rest =>
    obtain ⟨rfl, happ⟩ := hcut
    rw [HG.out, ← HE.out] at happ
    have happ' : XApp w X.g X.ov s.cnt s.ow [(i : Int), zi, tm, z0, z1, z2] wc := by rw [HCT.out]; exact happ
    obtain ⟨X', h1, n1⟩ := happ'.at HX.out
    have x1 := h1.inn i hi
    have f1 := h1.fg (4 + i)
    have lg1 := h1.glt
    have h2 := h1.setIn hi (-1) ⟨by omega, by have := h1.nd.1; omega⟩
    have n2 := xnext_set (w := wc) (o := 4 + i) h1.rg (.int .i64 (-1))
    rw [n1.g, ← HG.out] at x1 f1 lg1 h2 n2
    have HK : Hid (XKeep w X s (wc.setCell ⟨g, 4 + i, none⟩ (.int .i64 (-1)))) := ⟨X', _, h2, n1.trans n2, by simp, Nat.le_refl _⟩
    clear h1 n1 h2 n2 happ happ' x x0 lg xo fo fi p0 p1 p2
    go_wp2_with fail
    go_ret
    exact ⟨⟨0, rfl⟩, HK.out⟩
set_option maxHeartbeats 1000000 in
theorem xleave_now (h : XAt w X s) (i : Nat) (hi : i < 64) (tm : Int) (hck : clockS tm = true) (hz0 : ¬ s.inn i < 0) (hlt : ¬ s.now < tm) : Calls Try.prog 47 #[.pointer (some ⟨X.g, 0, none⟩), .int .i64 i, .int .i64 tm] w (XTurn w X s) := by
  have SV := Lib.hid (fun W => xserver_any i W)
  rw [decide_eq_true (show (0 : Int) ≤ i by omega), decide_eq_true (show (i : Int) < 64 by omega)] at SV
  have CK := Lib.hid (fun W => xclock_any tm W)
  rw [hck] at CK
  have hiz : (i : Int) < 64 := by omega
  have x := h.inn i hi
  have x0 := h.now
  have lg := h.glt
  have fi := h.fg (4 + i)
  have d1 : decide (s.inn i < 0) = false := decide_eq_false hz0
  have d2 : decide (s.now < tm) = false := decide_eq_false hlt
  have HK : Hid (XKeep w X s (w.setCell ⟨X.g, 4 + i, none⟩ (.int .i64 (-1)))) := ⟨X, _, h.setIn hi (-1) ⟨by omega, by have := h.nd.1; omega⟩, xnext_set h.rg _, by simp, Nat.le_refl _⟩
  generalize s.inn i = zi at *
  generalize s.now = sn at *
  generalize X.g = g at *
  clear h hck hz0 hlt
  go_enter Try.func47, Try.ntmps47
  go_wp2_with fail
  refine (SV.out _).mono ?_
  rintro e w1 ⟨rfl, hw1⟩
  obtain rfl := hw1.symm
  go_wp2_with fail
  refine (CK.out _).mono ?_
  rintro e w1 ⟨rfl, hw1⟩
  obtain rfl := hw1.symm
  go_wp2_with fail
  go_ret
  exact ⟨⟨0, rfl⟩, HK.out⟩
set_option maxHeartbeats 1000000 in
theorem xleave_none (h : XAt w X s) (i : Nat) (hi : i < 64) (tm : Int) (hck : clockS tm = true) (hz0 : s.inn i < 0) : Calls Try.prog 47 #[.pointer (some ⟨X.g, 0, none⟩), .int .i64 i, .int .i64 tm] w (XTurn w X s) := by
  have SV := Lib.hid (fun W => xserver_any i W)
  rw [decide_eq_true (show (0 : Int) ≤ i by omega), decide_eq_true (show (i : Int) < 64 by omega)] at SV
  have CK := Lib.hid (fun W => xclock_any tm W)
  rw [hck] at CK
  have hiz : (i : Int) < 64 := by omega
  have x := h.inn i hi
  have lg := h.glt
  have d1 : decide (s.inn i < 0) = true := decide_eq_true hz0
  have HX := Lib.hid h
  generalize s.inn i = zi at *
  generalize X.g = g at *
  clear h hck hz0
  go_enter Try.func47, Try.ntmps47
  go_wp2_with fail
  refine (SV.out _).mono ?_
  rintro e w1 ⟨rfl, hw1⟩
  obtain rfl := hw1.symm
  go_wp2_with fail
  refine (CK.out _).mono ?_
  rintro e w1 ⟨rfl, hw1⟩
  obtain rfl := hw1.symm
  go_wp2_with fail
  go_ret
  exact ⟨⟨14, rfl⟩, XKeep.same HX.out (Below.refl _ _)⟩
set_option maxHeartbeats 1000000 in
theorem xleave_bad (h : XAt w X s) (id tm : Int) (hb : ¬ ((0 ≤ id ∧ id < 64) ∧ clockS tm = true)) : Calls Try.prog 47 #[.pointer (some ⟨X.g, 0, none⟩), .int .i64 id, .int .i64 tm] w (XTurn w X s) := by
  have SV := Lib.hid (fun W => xserver_any id W)
  have CK := Lib.hid (fun W => xclock_any tm W)
  have HX := Lib.hid h
  generalize X.g = g at *
  clear h
  by_cases hid : 0 ≤ id ∧ id < 64
  · rw [decide_eq_true hid.1, decide_eq_true hid.2] at SV
    have hc : clockS tm = false := by
      cases h : clockS tm with
      | false => rfl
      | true => exact absurd ⟨hid, h⟩ hb
    rw [hc] at CK
    clear hb hid hc
    go_enter Try.func47, Try.ntmps47
    go_wp2_with fail
    refine (SV.out _).mono ?_
    rintro e w1 ⟨rfl, hw1⟩
    obtain rfl := hw1.symm
    go_wp2_with fail
    refine (CK.out _).mono ?_
    rintro e w1 ⟨rfl, hw1⟩
    obtain rfl := hw1.symm
    go_wp2_with fail
    go_ret
    exact ⟨⟨10, rfl⟩, XKeep.same HX.out (Below.refl _ _)⟩
  · have hdd : (decide (0 ≤ id) && decide (id < 64)) = false := by
      rw [← Bool.decide_and]; exact decide_eq_false hid
    rw [hdd] at SV
    clear hb hid hdd CK
    go_enter Try.func47, Try.ntmps47
    go_wp2_with fail
    refine (SV.out _).mono ?_
    rintro e w1 ⟨rfl, hw1⟩
    obtain rfl := hw1.symm
    go_wp2_with fail
    go_ret
    exact ⟨⟨10, rfl⟩, XKeep.same HX.out (Below.refl _ _)⟩
theorem xleave_any (h : XAt w X s) (hcn : s.cnt ≤ 900) (id tm : Int) : Calls Try.prog 47 #[.pointer (some ⟨X.g, 0, none⟩), .int .i64 id, .int .i64 tm] w (XTurn w X s) := by
  by_cases hb : (0 ≤ id ∧ id < 64) ∧ clockS tm = true
  · obtain ⟨hid, hck⟩ := hb
    obtain ⟨i, rfl⟩ : ∃ k : Nat, id = k := ⟨id.toNat, by omega⟩
    have hi : i < 64 := by omega
    by_cases hz : s.inn i < 0
    · exact xleave_none h i hi tm hck hz
    · by_cases hlt : s.now < tm
      · exact xleave_later h hcn i hi tm hck hz hlt
      · exact xleave_now h i hi tm hck hz hlt
  · exact xleave_bad h id tm hb
end
end Go.Proofs.Ytmcilmmnpolieaa
/- The document's answer's Go: it leaves one behind. Each theorem's premises are its conditions. -/
namespace Go.Proofs.Ytmcilmmnpolieaa
open Go.ChangeShapes Go.WideShapes Go.ChangeAt Go.RowKit Go.Shelf Go.Deep

def XTurn2 (w : World) (X : XLay) (s : XS) (e : Ending) (w' : World) : Prop := (∃ a b : Int, e = .returned (.tuple #[.int .i64 a, .int .i64 b])) ∧ XKeep w X s w'
theorem new_one (v : Value) (U : World) (t : TypeId) : ∀ j u, [v][j]? = some u → (U.alloc (.cells #[v] t)).cell? ((Addr.mk U.heap.size 0 none).add j) = some u := by
  intro j u hj
  have e : (Addr.mk U.heap.size 0 none).add j = ⟨U.heap.size, j, none⟩ := by unfold Addr.add; split <;> simp_all
  rw [e, cell_new]
  simpa using hj
theorem one_cell1 {v : Value} (h : v.oneCell' = true) : ∀ u ∈ [v], u.oneCell' = true := by
  intro u hu
  rw [List.mem_singleton] at hu
  rw [hu]; exact h
theorem own_base0 {w : World} {B e s n : Nat} {v : Value} {xs : List Value} (h : w.ownsRow B e s v n xs) : w.ownsRow 0 e s v n xs := by
  obtain ⟨hl, h0 | ⟨g, cap, cur, rfl, hB, hg⟩⟩ := h
  · exact ⟨hl, .inl h0⟩
  · exact ⟨hl, .inr ⟨g, cap, cur, rfl, Nat.zero_le _, hg⟩⟩
section
variable {w : World} {X : XLay} {s : XS}
set_option maxHeartbeats 1000000 in
theorem xgo_bad (h : XAt w X s) (now : Int) (hb : ¬ (clockS now = true ∧ s.now ≤ now)) : Calls Try.prog 49 #[.pointer (some ⟨X.g, 0, none⟩), .int .i64 now] w (XTurn2 w X s) := by
  have HX := Lib.hid h
  have CK := Lib.hid (fun W => xclock_any now W)
  have x := h.now
  have lg := h.glt
  generalize X.g = g at *
  by_cases hc : clockS now = true
  · rw [hc] at CK
    have d1 : decide (now < s.now) = true := decide_eq_true (by
      apply Classical.byContradiction
      intro hle
      exact hb ⟨hc, by omega⟩)
    generalize s.now = sn at *
    clear h hb hc
    go_enter Try.func49, Try.ntmps49
    go_wp2_with fail
    refine (CK.out _).mono ?_
    rintro e w1 ⟨rfl, hw1⟩
    obtain rfl := hw1.symm
    go_wp2_with fail
    go_ret2
    exact ⟨⟨0, 10, rfl⟩, XKeep.same HX.out (Below.refl _ _)⟩
  · have hc' : clockS now = false := by
      cases e : clockS now with
      | false => rfl
      | true => exact absurd e hc
    rw [hc'] at CK
    clear h hb hc hc' x
    go_enter Try.func49, Try.ntmps49
    go_wp2_with fail
    refine (CK.out _).mono ?_
    rintro e w1 ⟨rfl, hw1⟩
    obtain rfl := hw1.symm
    go_wp2_with fail
    go_ret2
    exact ⟨⟨0, 10, rfl⟩, XKeep.same HX.out (Below.refl _ _)⟩
set_option maxHeartbeats 4000000 in
set_option maxRecDepth 100000 in
theorem xgo_ok (h : XAt w X s) (hcn : s.cnt ≤ 900) (now : Int) (hc : clockS now = true) (hle : s.now ≤ now) : Calls Try.prog 49 #[.pointer (some ⟨X.g, 0, none⟩), .int .i64 now] w (XTurn2 w X s) := by
  have CK := Lib.hid (fun W => xclock_any now W)
  rw [hc] at CK
  obtain ⟨i0, hinf, hz0, hz1, hz2⟩ := info_parts Try.infoXOwe
  have x := h.now
  have fx := h.fg 0
  have lg := h.glt
  have d1 : decide (now < s.now) = false := decide_eq_false (by omega)
  have h2 := h.setNow now
  have n2 := xnext_set (w := w) (o := 0) h.rg (.int .i64 now)
  have HX2 := Lib.hid h2
  have HN2 := Lib.hid n2
  obtain ⟨oa, ocap, eov, hoc, hrow⟩ := xowed_shape h2
  simp only at eov hoc hrow
  have HR := Lib.hid hrow
  have xov := h2.ov
  have fov := h2.fg 260
  rw [eov] at xov
  have HE := Lib.hid eov
  have hvg : X.ov.ownBlock ≠ some X.g := fun e => x_ne (h.ro _ e) h.rg (by simp) rfl
  have HVG := Lib.hid hvg
  generalize hcnt : s.cnt = cnt at *
  have HCT := Lib.hid hcnt
  generalize s.now = sn at *
  obtain ⟨g, hg⟩ : ∃ g, g = X.g := ⟨_, rfl⟩
  have hws : ∃ ws, ws = w.setCell ⟨X.g, 0, none⟩ (.int .i64 now) := ⟨_, rfl⟩
  obtain ⟨ws, hws⟩ := hws
  have lg2 : X.g < ws.heap.size := by rw [hws, World.size_setCell]; exact lg
  rw [← hws] at HX2 HN2 HR xov fov
  rw [← hg] at x fx lg hws xov fov lg2 ⊢
  have HG := Lib.hid hg
  clear h h2 n2 hrow eov hcnt hc hle hvg hg
  go_enter Try.func49, Try.ntmps49
  go_wp2_with fail
  refine (CK.out _).mono ?_
  rintro e w1 ⟨rfl, hw1⟩
  obtain rfl := hw1.symm
  go_wp2_with fail
  rw [← hws]
  clear hws x fx lg d1
  have HB0 := Lib.hid (Below.refl ws.heap.size ws)
  go_loopg [6, 7] cnt (fun kx s6 s7 wr => ∃ (k n : Nat) (a : Option Addr) (c : Nat) (xs : List Int), s7 = .int .i64 k ∧ s6 = .slice a n c ∧ k ≤ cnt ∧ cnt - k ≤ kx ∧ n ≤ k ∧ Hid (wr.ownsRow ws.heap.size 113 6 (.slice a n c) n (ints xs) ∧ Below ws.heap.size ws wr))
  case atStart => exact ⟨0, 0, none, 0, [], rfl, rfl, by omega, by omega, by omega, ⟨rfl, .inl ⟨rfl, rfl⟩⟩, Below.refl _ _⟩
  case round =>
    obtain ⟨k, n, a, c, xs, rfl, rfl, hk, hkx, hn, HI⟩ := hrel
    have xr := (HI.out.2.cell (p := ⟨g, 260, none⟩) lg2).trans xov
    have fr := (HI.out.2.frozen (p := ⟨g, 260, none⟩) lg2).trans fov
    have hsz := HI.out.2.size
    have lg : g < wr.heap.size := by omega
    by_cases hlt : k < cnt
    · have hltz : (k : Int) < (cnt : Int) := by omega
      obtain ⟨b, rfl, hb, hz⟩ := HR.out k hlt
      have hbb : Same ws wr b := HI.out.2.block b hb
      have lb : b < wr.heap.size := by omega
      obtain ⟨z0, y0⟩ := hz 0 (by omega)
      obtain ⟨z1, y1⟩ := hz 1 (by omega)
      obtain ⟨z2, y2⟩ := hz 2 (by omega)
      obtain ⟨z3, y3⟩ := hz 3 (by omega)
      obtain ⟨z4, y4⟩ := hz 4 (by omega)
      obtain ⟨z5, y5⟩ := hz 5 (by omega)
      have y0 := (hbb.cell _).trans y0
      have y1 := (hbb.cell _).trans y1
      have y2 := (hbb.cell _).trans y2
      have y3 := (hbb.cell _).trans y3
      have y4 := (hbb.cell _).trans y4
      have y5 := (hbb.cell _).trans y5
      rw [Nat.add_zero] at y0
      clear hz hbb
      by_cases hlate : now < z2
      · have d1 : decide (now < z2) = true := decide_eq_true hlate
        clear hlate xov fov lg2
        go_wp2_with (at_builtin; (refine wpList_append_own _ rfl _ _ 102 rfl ws.heap.size 113 i0 (.agg #[.int .i64 0, .int .i64 0, .int .i64 0, .int .i64 0, .int .i64 0, .int .i64 0]) 6 48 Try.underlying102 hinf hz0 hz1 hz2 rfl (by decide) _ n (ints xs) rfl (HI.out.1.alloc _) ⟨wr.heap.size, 0, none⟩ 1 1 (ints [z0, z1, z2, z3, z4, z5]) rfl rfl (new_row6 [z0, z1, z2, z3, z4, z5] wr) (ints_one _) (by unfold maxLen; omega) (by omega) (by simp; omega) ?_); intro v' w3 hown hgrow _; obtain ⟨a3, n3, c3, rfl⟩ := SeqG.own_slice hown; have HW := Lib.hid hown; have HGR := Lib.hid hgrow; clear hown hgrow)
        have hB3 : Below ws.heap.size ws w3 := app_below (HI.out.2.alloc hsz _) (Nat.le_refl _) (by simp; omega) (B := ws.heap.size) (HI.out.1) HGR.out
        have hn3 : n3 = n + 1 := by
          obtain ⟨_, ⟨e, e0⟩ | ⟨_, _, _, e, _⟩⟩ := HW.out <;> cases e <;> simp_all
        subst hn3
        have HF : Hid (w3.ownsRow ws.heap.size 113 6 (.slice a3 (n + 1) c3) (n + 1) (ints (xs ++ [z0, z1, z2, z3, z4, z5]))) := by
          have e : ints (xs ++ [z0, z1, z2, z3, z4, z5]) = ints xs ++ ints [z0, z1, z2, z3, z4, z5] := by simp [ints]
          show World.ownsRow _ _ _ _ _ _ _
          rw [e]; exact HW.out
        go_roundg (cnt - (k + 1))
        case measure => omega
        case rel => exact ⟨k + 1, n + 1, a3, c3, _, by first | rfl | (congr 1; done) | (congr 1; omega) | (simp; omega), rfl, by omega, Nat.le_refl _, by omega, HF.out, hB3⟩
      · have d1 : decide (now < z2) = false := decide_eq_false hlate
        clear hlate xov fov lg2
        go_wp2_with fail
        go_roundg (cnt - (k + 1))
        case measure => omega
        case rel => exact ⟨k + 1, n, a, c, xs, by first | rfl | (congr 1; done) | (congr 1; omega) | (simp; omega), rfl, by omega, Nat.le_refl _, by omega, HI.out⟩
    · obtain rfl : k = cnt := by omega
      have hge : ¬ (k : Int) < (k : Int) := by omega
      have hvk : ∀ b, (Value.slice a n c).ownBlock = some b → X.ov.ownBlock = some b ∨ ws.heap.size ≤ b := fun b e => .inr (HI.out.1.lt b e).1
      have hng : (Value.slice a n c).ownBlock ≠ some g := fun e => by have := (HI.out.1.lt g e).1; omega
      obtain ⟨X', h3, n3⟩ := HX2.out.setOv (w3 := wr.setCell ⟨g, 260, none⟩ (.slice a n c)) (v' := .slice a n c) (cnt' := n) (ow' := xs)
        ((Only.of_below HI.out.2).set (a := ⟨g, 260, none⟩) (.inl (.inl HG.out)) _)
        (fun o ho => by rw [← HG.out]; exact (set_other ho).trans (HI.out.2.cell (p := ⟨g, o, none⟩) lg2))
        (fun o => by rw [← HG.out]; exact (World.frozen?_setCell _ _ _ _).trans (HI.out.2.frozen (p := ⟨g, o, none⟩) lg2))
        (by rw [← HG.out]; exact World.cell?_setCell_same _ _ _ xr)
        (own_same (own_base0 HI.out.1) fun b e => Below.heap_setCell _ _ _ _ (fun e2 => hng (by rw [e, e2])))
        hvk
      have HK : Hid (XKeep w X s (wr.setCell ⟨g, 260, none⟩ (.slice a n c))) := ⟨X', _, h3, HN2.out.trans n3, by simp only; have := HCT.out; omega, Nat.le_refl _⟩
      clear h3 n3 hvk hng xov fov lg2
      go_wp2_with fail
      go_ret2
      exact ⟨⟨_, 0, rfl⟩, HK.out⟩
theorem xgo_any (h : XAt w X s) (hcn : s.cnt ≤ 900) (now : Int) : Calls Try.prog 49 #[.pointer (some ⟨X.g, 0, none⟩), .int .i64 now] w (XTurn2 w X s) := by
  by_cases hb : clockS now = true ∧ s.now ≤ now
  · exact xgo_ok h hcn now hb.1 hb.2
  · exact xgo_bad h now hb
end
end Go.Proofs.Ytmcilmmnpolieaa
/- The document's answer's Move: it leaves one behind. Each theorem's premises are its conditions. -/
namespace Go.Proofs.Ytmcilmmnpolieaa
open Go.ChangeShapes Go.WideShapes Go.ChangeAt Go.RowKit Go.Shelf Go.Deep

section
variable {w : World} {X : XLay} {s : XS}
set_option maxHeartbeats 1000000 in
theorem xmove_bad (h : XAt w X s) (id d tm : Int) (hb : ¬ ((0 ≤ id ∧ id < 64) ∧ clockS tm = true)) : Calls Try.prog 48 #[.pointer (some ⟨X.g, 0, none⟩), .int .i64 id, .int .i64 d, .int .i64 tm] w (XTurn w X s) := by
  have SV := Lib.hid (fun W => xserver_any id W)
  have CK := Lib.hid (fun W => xclock_any tm W)
  have HX := Lib.hid h
  generalize X.g = g at *
  clear h
  by_cases hid : 0 ≤ id ∧ id < 64
  · rw [decide_eq_true hid.1, decide_eq_true hid.2] at SV
    have hc : clockS tm = false := by
      cases h : clockS tm with
      | false => rfl
      | true => exact absurd ⟨hid, h⟩ hb
    rw [hc] at CK
    clear hb hid hc
    go_enter Try.func48, Try.ntmps48
    go_wp2_with fail
    refine (SV.out _).mono ?_
    rintro e w1 ⟨rfl, hw1⟩
    obtain rfl := hw1.symm
    go_wp2_with fail
    refine (CK.out _).mono ?_
    rintro e w1 ⟨rfl, hw1⟩
    obtain rfl := hw1.symm
    go_wp2_with fail
    go_ret
    exact ⟨⟨10, rfl⟩, XKeep.same HX.out (Below.refl _ _)⟩
  · have hdd : (decide (0 ≤ id) && decide (id < 64)) = false := by
      rw [← Bool.decide_and]; exact decide_eq_false hid
    rw [hdd] at SV
    clear hb hid hdd CK
    go_enter Try.func48, Try.ntmps48
    go_wp2_with fail
    refine (SV.out _).mono ?_
    rintro e w1 ⟨rfl, hw1⟩
    obtain rfl := hw1.symm
    go_wp2_with fail
    go_ret
    exact ⟨⟨10, rfl⟩, XKeep.same HX.out (Below.refl _ _)⟩
set_option maxHeartbeats 1000000 in
theorem xmove_none (h : XAt w X s) (i : Nat) (hi : i < 64) (d tm : Int) (hck : clockS tm = true) (hz0 : s.inn i < 0) : Calls Try.prog 48 #[.pointer (some ⟨X.g, 0, none⟩), .int .i64 i, .int .i64 d, .int .i64 tm] w (XTurn w X s) := by
  have SV := Lib.hid (fun W => xserver_any i W)
  rw [decide_eq_true (show (0 : Int) ≤ i by omega), decide_eq_true (show (i : Int) < 64 by omega)] at SV
  have CK := Lib.hid (fun W => xclock_any tm W)
  rw [hck] at CK
  have hiz : (i : Int) < 64 := by omega
  have HX := Lib.hid h
  have x := h.inn i hi
  have lg := h.glt
  have d1 : decide (s.inn i < 0) = true := decide_eq_true hz0
  generalize s.inn i = zi at *
  generalize X.g = g at *
  clear h hck hz0
  go_enter Try.func48, Try.ntmps48
  go_wp2_with fail
  refine (SV.out _).mono ?_
  rintro e w1 ⟨rfl, hw1⟩
  obtain rfl := hw1.symm
  go_wp2_with fail
  refine (CK.out _).mono ?_
  rintro e w1 ⟨rfl, hw1⟩
  obtain rfl := hw1.symm
  go_wp2_with fail
  go_ret
  exact ⟨⟨14, rfl⟩, XKeep.same HX.out (Below.refl _ _)⟩
set_option maxHeartbeats 1000000 in
theorem xmove_far (h : XAt w X s) (i : Nat) (hi : i < 64) (d tm : Int) (hck : clockS tm = true) (hz0 : ¬ s.inn i < 0) (hd : ¬ (0 ≤ d ∧ d < s.nd)) : Calls Try.prog 48 #[.pointer (some ⟨X.g, 0, none⟩), .int .i64 i, .int .i64 d, .int .i64 tm] w (XTurn w X s) := by
  have SV := Lib.hid (fun W => xserver_any i W)
  rw [decide_eq_true (show (0 : Int) ≤ i by omega), decide_eq_true (show (i : Int) < 64 by omega)] at SV
  have CK := Lib.hid (fun W => xclock_any tm W)
  rw [hck] at CK
  have hiz : (i : Int) < 64 := by omega
  have HX := Lib.hid h
  have x := h.inn i hi
  have lg := h.glt
  have d1 : decide (s.inn i < 0) = false := decide_eq_false hz0
  have TH := Lib.hid (xthere_any h d)
  have hdd : (decide (0 ≤ d) && decide (d < (s.nd : Int))) = false := by
    rw [← Bool.decide_and]; exact decide_eq_false hd
  rw [hdd] at TH
  generalize s.inn i = zi at *
  generalize X.g = g at *
  clear h hck hz0 hd hdd
  go_enter Try.func48, Try.ntmps48
  go_wp2_with fail
  refine (SV.out _).mono ?_
  rintro e w1 ⟨rfl, hw1⟩
  obtain rfl := hw1.symm
  go_wp2_with fail
  refine (CK.out _).mono ?_
  rintro e w1 ⟨rfl, hw1⟩
  obtain rfl := hw1.symm
  go_wp2_with fail
  refine TH.out.mono ?_
  rintro e w1 ⟨rfl, hw1⟩
  obtain rfl := hw1.symm
  go_wp2_with fail
  go_ret
  exact ⟨⟨14, rfl⟩, XKeep.same HX.out (Below.refl _ _)⟩
set_option maxHeartbeats 1000000 in
theorem xmove_there (h : XAt w X s) (i : Nat) (hi : i < 64) (d tm : Int) (hck : clockS tm = true) (hz0 : ¬ s.inn i < 0) (hd : 0 ≤ d ∧ d < s.nd) (he : s.inn i = d) : Calls Try.prog 48 #[.pointer (some ⟨X.g, 0, none⟩), .int .i64 i, .int .i64 d, .int .i64 tm] w (XTurn w X s) := by
  have SV := Lib.hid (fun W => xserver_any i W)
  rw [decide_eq_true (show (0 : Int) ≤ i by omega), decide_eq_true (show (i : Int) < 64 by omega)] at SV
  have CK := Lib.hid (fun W => xclock_any tm W)
  rw [hck] at CK
  have hiz : (i : Int) < 64 := by omega
  have HX := Lib.hid h
  have x := h.inn i hi
  have lg := h.glt
  have d1 : decide (s.inn i < 0) = false := decide_eq_false hz0
  have d2 : (s.inn i == d) = true := by rw [beq_iff_eq]; exact he
  have TH := Lib.hid (xthere_any h d)
  rw [decide_eq_true hd.1, decide_eq_true hd.2] at TH
  generalize s.inn i = zi at *
  generalize X.g = g at *
  clear h hck hz0 hd he
  go_enter Try.func48, Try.ntmps48
  go_wp2_with fail
  refine (SV.out _).mono ?_
  rintro e w1 ⟨rfl, hw1⟩
  obtain rfl := hw1.symm
  go_wp2_with fail
  refine (CK.out _).mono ?_
  rintro e w1 ⟨rfl, hw1⟩
  obtain rfl := hw1.symm
  go_wp2_with fail
  refine TH.out.mono ?_
  rintro e w1 ⟨rfl, hw1⟩
  obtain rfl := hw1.symm
  go_wp2_with fail
  go_ret
  exact ⟨⟨15, rfl⟩, XKeep.same HX.out (Below.refl _ _)⟩
set_option maxHeartbeats 2000000 in
theorem xmove_go (h : XAt w X s) (hcn : s.cnt ≤ 900) (i : Nat) (hi : i < 64) (d tm : Int) (hck : clockS tm = true) (hz0 : ¬ s.inn i < 0) (hd : 0 ≤ d ∧ d < s.nd) (he : ¬ s.inn i = d) : Calls Try.prog 48 #[.pointer (some ⟨X.g, 0, none⟩), .int .i64 i, .int .i64 d, .int .i64 tm] w (XTurn w X s) := by
  have SV := Lib.hid (fun W => xserver_any i W)
  rw [decide_eq_true (show (0 : Int) ≤ i by omega), decide_eq_true (show (i : Int) < 64 by omega)] at SV
  have CK := Lib.hid (fun W => xclock_any tm W)
  rw [hck] at CK
  have hiz : (i : Int) < 64 := by omega
  have HX := Lib.hid h
  have x := h.inn i hi
  have lg := h.glt
  have d1 : decide (s.inn i < 0) = false := decide_eq_false hz0
  have d2 : (s.inn i == d) = false := by rw [beq_eq_false_iff_ne]; exact he
  have TH := Lib.hid (xthere_any h d)
  rw [decide_eq_true hd.1, decide_eq_true hd.2] at TH
  have p0 := h.p (i * 3) (by omega)
  have p1 := h.p (i * 3 + 1) (by omega)
  have p2 := h.p (i * 3 + 2) (by omega)
  simp only [← Nat.add_assoc] at p1 p2
  have PA := Lib.hid (xpasses_any h hcn d (-1) (s.p (i * 3), s.p (i * 3 + 1), s.p (i * 3 + 2)))
  have HCN := Lib.hid hcn
  have HD := Lib.hid hd
  generalize s.inn i = zi at *
  generalize s.p (i * 3) = z0 at *
  generalize s.p (i * 3 + 1) = z1 at *
  generalize s.p (i * 3 + 2) = z2 at *
  obtain ⟨g, hg⟩ : ∃ g, g = X.g := ⟨_, rfl⟩
  rw [← hg] at x lg p0 p1 p2 TH PA ⊢
  have HG := Lib.hid hg
  clear h hck hz0 hcn hd he hg
  go_enter Try.func48, Try.ntmps48
  go_wp2_with fail
  refine (SV.out _).mono ?_
  rintro e w1 ⟨rfl, hw1⟩
  obtain rfl := hw1.symm
  go_wp2_with fail
  refine (CK.out _).mono ?_
  rintro e w1 ⟨rfl, hw1⟩
  obtain rfl := hw1.symm
  go_wp2_with fail
  refine TH.out.mono ?_
  rintro e w1 ⟨rfl, hw1⟩
  obtain rfl := hw1.symm
  go_wp2_with fail
  refine PA.out.mono ?_
  rintro e w2 ⟨⟨E, rfl, _⟩, b2⟩
  by_cases hE0 : E = 0
  · subst hE0
    have h2 := HX.out.below b2
    have LV := Lib.hid (xleave_any h2 HCN.out i tm)
    rw [← HG.out] at LV
    have HB2 := Lib.hid b2
    clear h2 b2
    go_wp2_with fail
    refine LV.out.mono ?_
    rintro e w3 ⟨⟨z, rfl⟩, X3, s3, h3, n3, hc3, hn3⟩
    have x3 := h3.inn i hi
    have f3 := h3.fg (4 + i)
    have lg3 := h3.glt
    have hd3 : (0 : Int) ≤ d ∧ d < s3.nd := ⟨HD.out.1, by have := HD.out.2; omega⟩
    have h4 := h3.setIn hi d (by omega)
    have n4 := xnext_set (w := w3) (o := 4 + i) h3.rg (.int .i64 d)
    have hg3 := n3.g
    rw [hg3, ← HG.out] at x3 f3 lg3 h4 n4
    have HK : Hid (XKeep w X s (w3.setCell ⟨g, 4 + i, none⟩ (.int .i64 d))) := ⟨X3, _, h4, ((XNext.of_below X HB2.out).trans n3).trans n4, hc3, hn3⟩
    clear h3 n3 hc3 hn3 hd3 h4 n4 hg3 x lg p0 p1 p2
    go_wp2_with fail
    go_ret
    exact ⟨⟨0, rfl⟩, HK.out⟩
  · have dE : (E == 0) = false := by rw [beq_eq_false_iff_ne]; exact hE0
    clear hE0
    go_wp2_with fail
    go_ret
    exact ⟨⟨E, rfl⟩, XKeep.same HX.out b2⟩
theorem xmove_any (h : XAt w X s) (hcn : s.cnt ≤ 900) (id d tm : Int) : Calls Try.prog 48 #[.pointer (some ⟨X.g, 0, none⟩), .int .i64 id, .int .i64 d, .int .i64 tm] w (XTurn w X s) := by
  by_cases hb : (0 ≤ id ∧ id < 64) ∧ clockS tm = true
  · obtain ⟨hid, hck⟩ := hb
    obtain ⟨i, rfl⟩ : ∃ k : Nat, id = k := ⟨id.toNat, by omega⟩
    have hi : i < 64 := by omega
    by_cases hz : s.inn i < 0
    · exact xmove_none h i hi d tm hck hz
    · by_cases hd : 0 ≤ d ∧ d < s.nd
      · by_cases he : s.inn i = d
        · exact xmove_there h i hi d tm hck hz hd he
        · exact xmove_go h hcn i hi d tm hck hz hd he
      · exact xmove_far h i hi d tm hck hz hd
  · exact xmove_bad h id d tm hb
end
end Go.Proofs.Ytmcilmmnpolieaa
/- The document's answer's Worker: it leaves one behind. Each theorem's premises are its conditions. -/
namespace Go.Proofs.Ytmcilmmnpolieaa
open Go.ChangeShapes Go.WideShapes Go.ChangeAt Go.RowKit Go.Shelf Go.Deep

section
variable {w : World} {X : XLay} {s : XS}
theorem xworker_bad (h : XAt w X s) (wi d : Int) (hb : ¬ (0 ≤ wi ∧ wi < 3)) : Calls Try.prog 50 #[.pointer (some ⟨X.g, 0, none⟩), .int .i64 wi, .int .i64 d] w (XTurn w X s) := by
  have HX := Lib.hid h
  have x := h.wv
  have lg := h.glt
  generalize X.wb = wb at *
  generalize X.g = g at *
  clear h
  by_cases h1 : wi < 0
  · have d1 : decide (wi < 0) = true := decide_eq_true h1
    clear hb h1
    go_enter Try.func50, Try.ntmps50
    go_wp2_with fail
    go_ret
    exact ⟨⟨10, rfl⟩, XKeep.same HX.out (Below.refl _ _)⟩
  · have d1 : decide (wi < 0) = false := decide_eq_false h1
    have d2 : decide ((3 : Int) ≤ wi) = true := decide_eq_true (by omega)
    clear hb h1
    go_enter Try.func50, Try.ntmps50
    go_wp2_with fail
    go_ret
    exact ⟨⟨10, rfl⟩, XKeep.same HX.out (Below.refl _ _)⟩
theorem xworker_far (h : XAt w X s) (i : Nat) (hi : i < 3) (d : Int) (hd : ¬ (0 ≤ d ∧ d < s.nd)) : Calls Try.prog 50 #[.pointer (some ⟨X.g, 0, none⟩), .int .i64 i, .int .i64 d] w (XTurn w X s) := by
  have HX := Lib.hid h
  have x := h.wv
  have y := h.wk i hi
  have lg := h.glt
  have lwb := h.role_lt h.rw
  have d1 : decide ((i : Int) < 0) = false := decide_eq_false (by omega)
  have d2 : decide ((3 : Int) ≤ (i : Int)) = false := decide_eq_false (by omega)
  have hiz : (i : Int) < 3 := by omega
  have TH := Lib.hid (xthere_any h d)
  have hdd : (decide (0 ≤ d) && decide (d < (s.nd : Int))) = false := by
    rw [← Bool.decide_and]; exact decide_eq_false hd
  rw [hdd] at TH
  generalize X.wb = wb at *
  generalize X.g = g at *
  clear h hd hdd
  go_enter Try.func50, Try.ntmps50
  go_wp2_with fail
  refine TH.out.mono ?_
  rintro e w1 ⟨rfl, hw1⟩
  obtain rfl := hw1.symm
  go_wp2_with fail
  go_ret
  exact ⟨⟨14, rfl⟩, XKeep.same HX.out (Below.refl _ _)⟩
theorem xworker_there (h : XAt w X s) (i : Nat) (hi : i < 3) (hd : s.wk i < s.nd) : Calls Try.prog 50 #[.pointer (some ⟨X.g, 0, none⟩), .int .i64 i, .int .i64 (s.wk i : Nat)] w (XTurn w X s) := by
  have HX := Lib.hid h
  have x := h.wv
  have y := h.wk i hi
  have lg := h.glt
  have lwb := h.role_lt h.rw
  have d1 : decide ((i : Int) < 0) = false := decide_eq_false (by omega)
  have d2 : decide ((3 : Int) ≤ (i : Int)) = false := decide_eq_false (by omega)
  have hiz : (i : Int) < 3 := by omega
  have TH := Lib.hid (xthere_any h (s.wk i : Nat))
  rw [decide_eq_true (show (0 : Int) ≤ (s.wk i : Nat) by omega), decide_eq_true (show ((s.wk i : Nat) : Int) < (s.nd : Int) by omega)] at TH
  generalize s.wk i = ki at *
  generalize X.wb = wb at *
  generalize X.g = g at *
  clear h hd
  go_enter Try.func50, Try.ntmps50
  go_wp2_with fail
  refine TH.out.mono ?_
  rintro e w1 ⟨rfl, hw1⟩
  obtain rfl := hw1.symm
  go_wp2_with fail
  go_ret
  exact ⟨⟨15, rfl⟩, XKeep.same HX.out (Below.refl _ _)⟩
set_option maxHeartbeats 4000000 in
theorem xworker_go (h : XAt w X s) (hcn : s.cnt ≤ 900) (i : Nat) (hi : i < 3) (d : Nat) (hd : d < s.nd) (hne : ¬ s.wk i = d) : Calls Try.prog 50 #[.pointer (some ⟨X.g, 0, none⟩), .int .i64 i, .int .i64 (d : Nat)] w (XTurn w X s) := by
  have HX := Lib.hid h
  have x := h.wv
  have y := h.wk i hi
  have lg := h.glt
  have lwb := h.role_lt h.rw
  have d1 : decide ((i : Int) < 0) = false := decide_eq_false (by omega)
  have d2 : decide ((3 : Int) ≤ (i : Int)) = false := decide_eq_false (by omega)
  have hiz : (i : Int) < 3 := by omega
  have TH := Lib.hid (xthere_any h (d : Nat))
  rw [decide_eq_true (show (0 : Int) ≤ (d : Nat) by omega), decide_eq_true (show ((d : Nat) : Int) < (s.nd : Int) by omega)] at TH
  have AL := Lib.hid (xall_any h hcn (s.wk i : Nat) (-1))
  have hki := h.wkr i hi
  have d3 : ((s.wk i : Nat) == (d : Nat)) = false := by rw [beq_eq_false_iff_ne]; exact hne
  have hkz : ((s.wk i : Nat) : Int) < (s.nd : Int) := by omega
  have HD := Lib.hid hd
  have HN := Lib.hid hne
  generalize hkk : s.wk i = ki at *
  have HK := Lib.hid hkk
  generalize hwb : X.wb = wb at *
  have HWB := Lib.hid hwb
  obtain ⟨g, hg⟩ : ∃ g, g = X.g := ⟨_, rfl⟩
  rw [← hg] at x lg TH AL ⊢
  have HG := Lib.hid hg
  clear h hcn hd hne hkk hwb hg
  go_enter Try.func50, Try.ntmps50
  go_wp2_with fail
  refine TH.out.mono ?_
  rintro e w1 ⟨rfl, hw1⟩
  obtain rfl := hw1.symm
  go_wp2_with fail
  refine AL.out.mono ?_
  rintro e w2 ⟨a, c, ps, rfl, o2, hq, b2⟩
  have h2 := HX.out.below b2
  have MA := Lib.hid (xmany_any h2 ki)
  obtain ⟨hb, hc, ehv, hlb, hlc, hhc⟩ := xhard_shape h2
  obtain ⟨cb, cc, ecv, clb, clc, hcc⟩ := xcap_shape h2
  obtain ⟨zh, yh⟩ := hhc ki hki
  obtain ⟨zc, yc⟩ := hcc ki hki
  have xh := h2.hv
  have xc := h2.cv
  rw [ehv] at xh
  rw [ecv] at xc
  have x2 := h2.wv
  have y2 := h2.wk i hi
  have lg2 := h2.glt
  have lwb2 := h2.role_lt h2.rw
  have TT := Lib.hid (fun (k : Int) (W : World) (j : Below w2.heap.size w2 W) => reftest_any zh zc k (.slice a ps.length c) ps W ((owns_row o2).1.below j) (by omega))
  have R0 := Below.refl w2.heap.size w2
  rw [← HG.out] at xh xc x2 lg2 MA
  rw [HWB.out] at x2 y2 lwb2
  have HFIN : Hid (∀ W, Below w2.heap.size w2 W → XKeep w X s (W.setCell ⟨wb, i, none⟩ (.int .i64 (d : Nat))) ∧ W.cell? ⟨wb, i, none⟩ = some (.int .i64 (ki : Nat)) ∧ W.cell? ⟨g, 3, none⟩ = some (.slice (some ⟨wb, 0, none⟩) 3 3) ∧ W.frozen? ⟨wb, i, none⟩ = false ∧ wb < W.heap.size ∧ g < W.heap.size) := fun W hW => by
    have h3 := h2.below hW
    have k3 := h3.setWkr hi d HD.out
    have n3 := xnext_set (w := W) (o := i) h3.rw (.int .i64 (d : Nat))
    have y3 := h3.wk i hi
    have x3 := h3.wv
    have f3 := h3.fw i
    have l3 := h3.role_lt h3.rw
    have g3 := h3.glt
    rw [HK.out] at y3
    rw [HWB.out] at k3 n3 y3 x3 f3 l3
    rw [← HG.out] at x3 g3
    exact ⟨⟨X, _, k3, ((XNext.of_below X b2).trans (XNext.of_below X hW)).trans n3, by simp, Nat.le_refl _⟩, y3, x3, f3, l3, g3⟩
  rw [HK.out] at y2
  have HB2 := Lib.hid b2
  clear h2 b2 ehv ecv hhc hcc o2 x y lg lwb
  go_wp2_with fail
  refine MA.out.mono ?_
  rintro e w3 ⟨⟨k, hk, rfl⟩, hw3⟩
  obtain rfl := hw3.symm
  go_upto_region 10 with fail
  go_cut [48] from 42 to 47 (fun sv wx => (∃ b : Bool, sv = .bool b) ∧ wx = w2)
  case first =>
    have hk4 : k = 0 ∨ k = 1 ∨ k = 2 ∨ k = 3 := by omega
    clear xh xc yh yc x2 y2
    by_cases hp : 0 < ps.length
    · have dp : decide ((0 : Int) < (ps.length : Int)) = true := decide_eq_true (by omega)
      have dp' : decide (0 < ps.length) = true := decide_eq_true hp
      rcases hk4 with rfl | rfl | rfl | rfl
      all_goals
        go_wp2_with fail
        go_meet
        exact ⟨⟨_, rfl⟩, rfl⟩
    · have dp : decide ((0 : Int) < (ps.length : Int)) = false := decide_eq_false (by omega)
      have dp' : decide (0 < ps.length) = false := decide_eq_false hp
      rcases hk4 with rfl | rfl | rfl | rfl
      all_goals
        go_wp2_with fail
        go_meet
        exact ⟨⟨_, rfl⟩, rfl⟩
  case rest =>
    obtain ⟨⟨b, rfl⟩, hw4⟩ := hcut
    obtain rfl := hw4.symm
    cases b with
    | true =>
      go_wp2_with fail
      go_ret
      exact ⟨⟨16, rfl⟩, XKeep.same HX.out HB2.out⟩
    | false =>
      go_wp2_with fail
      go_upto_region 12 with fail
      go_cut [70] from 49 to 69 (fun sv wx => (∃ b : Bool, sv = .bool b) ∧ Below w2.heap.size w2 wx)
      case first =>
        have hk4 : (k = 0 ∨ k = 1) ∨ (k = 2 ∨ k = 3) := by omega
        rcases hk4 with hk4 | hk4
        · clear xh xc yh yc x2 y2
          rcases hk4 with rfl | rfl
          all_goals
            go_quiet (fail)
            go_wp2_with fail
            go_meet
            exact ⟨⟨_, rfl⟩, bel_drewN R0 _⟩
        · have HS : Hid (∀ W, Below w2.heap.size w2 W → (W.cell? ⟨g, 1, none⟩ = some (.slice (some ⟨hb, 0, none⟩) s.nd hc) ∧ W.cell? ⟨hb, ki, none⟩ = some (.bool zh) ∧ W.cell? ⟨g, 2, none⟩ = some (.slice (some ⟨cb, 0, none⟩) s.nd cc) ∧ W.cell? ⟨cb, ki, none⟩ = some (.int .i64 zc))) := fun W hW =>
            ⟨(hW.cell lg2).trans xh, (hW.cell hlb).trans yh, (hW.cell lg2).trans xc, (hW.cell clb).trans yc⟩
          rcases hk4 with rfl | rfl
          all_goals
            go_region_held3 (fun w' => (w'.cell? ⟨g, 1, none⟩ = some (.slice (some ⟨hb, 0, none⟩) s.nd hc) ∧ w'.cell? ⟨hb, ki, none⟩ = some (.bool zh) ∧ w'.cell? ⟨g, 2, none⟩ = some (.slice (some ⟨cb, 0, none⟩) s.nd cc) ∧ w'.cell? ⟨cb, ki, none⟩ = some (.int .i64 zc)) ∧ Below w2.heap.size w2 w')
              (refine ⟨HS.out _ ?_, ?_⟩ <;> (repeat (first | assumption | with_reducible refine bel_drew ?_)))
              (first
                | (go_at_call 66; refine (TT.out _ _ (bel_drew R0)).mono ?_; rintro e w5 ⟨rfl, b5⟩; have R5 := bel_end (bel_drew R0) b5)
                | fail)
          all_goals go_wp2_with fail
          all_goals go_meet
          all_goals exact ⟨⟨_, rfl⟩, bel_end (bel_drew R0) b5⟩
      case rest =>
        obtain ⟨⟨b, rfl⟩, b5⟩ := hcut
        obtain ⟨hK, y3, x3, f3, l3, g3⟩ := HFIN.out _ b5
        have HKK := Lib.hid hK
        have HB5 := Lib.hid (bel_end HB2.out b5)
        clear hK b5 xh xc yh yc x2 y2 lg2 lwb2
        cases b with
        | true =>
          go_wp2_with fail
          go_ret
          exact ⟨⟨17, rfl⟩, XKeep.same HX.out HB5.out⟩
        | false =>
          go_wp2_with fail
          go_ret
          exact ⟨⟨0, rfl⟩, HKK.out⟩
theorem xworker_any (h : XAt w X s) (hcn : s.cnt ≤ 900) (wi d : Int) : Calls Try.prog 50 #[.pointer (some ⟨X.g, 0, none⟩), .int .i64 wi, .int .i64 d] w (XTurn w X s) := by
  by_cases hb : 0 ≤ wi ∧ wi < 3
  · obtain ⟨i, rfl⟩ : ∃ k : Nat, wi = k := ⟨wi.toNat, by omega⟩
    have hi : i < 3 := by omega
    by_cases hd : 0 ≤ d ∧ d < s.nd
    · obtain ⟨dn, rfl⟩ : ∃ k : Nat, d = k := ⟨d.toNat, by omega⟩
      have hdn : dn < s.nd := by omega
      by_cases he : s.wk i = dn
      · subst he; exact xworker_there h i hi hdn
      · exact xworker_go h hcn i hi dn hdn he
    · exact xworker_far h i hi d hd
  · exact xworker_bad h wi d hb
end
end Go.Proofs.Ytmcilmmnpolieaa
