/- What ledger.Leave answers, and what it turns. What ledger.Leave turns where a server's params are owed yet. What ledger.Leave and ledger.Move answer of any server, domain and time. Each theorem's premises are its conditions. -/
import Derived.Test.YtmcilmmnpolieaaK26
import Derived.Test.YtmcilmmnpolieaaK31
import Derived.Deep.RegionLaw
/- What ledger.Leave answers, and what it turns. Each theorem's premises are its conditions. -/
namespace Go.Proofs.Ytmcilmmnpolieaa
open Go.ChangeShapes Go.WideShapes Go.ChangeAt Go.RowKit Go.Shelf Go.Deep

theorem Try.infoOwe : (Try.prog.info? 56).map (fun i => (i.zero, i.size, i.bytes)) = some (some (.agg #[.int .i64 0, .int .i64 0, .int .i64 0, .int .i64 0, .int .i64 0]), 5, 40) := by kernel_rfl
theorem new_row5 (o : Ow) (U : World) : ∀ j u, (ocells [o])[j]? = some u → (U.alloc (.cells #[.int .i64 o.id, .int .i64 o.till, .int .i64 o.p.1, .int .i64 o.p.2.1, .int .i64 o.p.2.2] 56)).cell? ((Addr.mk U.heap.size 0 none).add j) = some u := by
  intro j u hj
  have e : (Addr.mk U.heap.size 0 none).add j = ⟨U.heap.size, j, none⟩ := by unfold Addr.add; split <;> simp_all
  rw [e, cell_new]
  simpa [ocells, ocell] using hj
section
variable {w : World} {L : Lay} {st : LS} {n : Nat}
theorem leave_out (h : LAt w L st) (id tm : Int) (hid : ¬ (0 ≤ id ∧ id < 64)) : Calls Try.prog 11 #[.pointer (some ⟨L.g, 0, none⟩), .int .i64 id, .int .i64 tm] w fun e w' => Turns w L st e (.int .i64 10) w' := by
  have C := Lib.hid (member_any L.g id (sfind_out (w := w) id hid ⟨L.g, 3, none⟩))
  have HL := Lib.hid h
  obtain ⟨g, hg⟩ : ∃ g, g = L.g := ⟨_, rfl⟩
  rw [← hg] at C ⊢
  clear h hg hid
  go_enter Try.func11, Try.ntmps11
  go_wp2_with fail
  refine C.out.mono ?_
  rintro e w1 ⟨rfl, hw1⟩
  obtain rfl := hw1.symm
  go_wp2_with fail
  go_ret
  exact Turns.same HL.out (Below.refl _ _)
theorem leave_clock (h : LAt w L st) (i : Nat) (hi : i < 64) (tm : Int) (hc : clockS tm = false) : Calls Try.prog 11 #[.pointer (some ⟨L.g, 0, none⟩), .int .i64 i, .int .i64 tm] w fun e w' => Turns w L st e (.int .i64 10) w' := by
  have CK := Lib.hid (fun W => clock_any tm W)
  rw [hc] at CK
  have HL := Lib.hid h
  have hm : ∃ r z, ((z : Int) == 2) = false ∧ ((z : Int) == 10) = false ∧ Hid (Calls Try.prog 30 #[.pointer (some ⟨L.g, 0, none⟩), .int .i64 i] w fun e w' => e = .returned (.tuple #[r, .int .i64 z]) ∧ w' = w) := by
    cases hs : st.srv i with
    | none => exact ⟨_, 14, rfl, rfl, member_any L.g i (sfind_none h i hi hs)⟩
    | some s => exact ⟨_, 0, rfl, rfl, member_any L.g i (sfind_some h i hi hs)⟩
  obtain ⟨r, z, d1, d2, C⟩ := hm
  obtain ⟨g, hg⟩ : ∃ g, g = L.g := ⟨_, rfl⟩
  rw [← hg] at C ⊢
  clear h hg hc
  go_enter Try.func11, Try.ntmps11
  go_wp2_with fail
  refine C.out.mono ?_
  rintro e w1 ⟨rfl, hw1⟩
  obtain rfl := hw1.symm
  go_wp2_with fail
  refine (CK.out _).mono ?_
  rintro e w1 ⟨rfl, hw1⟩
  obtain rfl := hw1.symm
  go_wp2_with fail
  go_ret
  exact Turns.same HL.out (Below.refl _ _)
theorem leave_none (h : LAt w L st) (i : Nat) (hi : i < 64) (tm : Int) (hc : clockS tm = true) (hs : st.srv i = none) : Calls Try.prog 11 #[.pointer (some ⟨L.g, 0, none⟩), .int .i64 i, .int .i64 tm] w fun e w' => Turns w L st e (.int .i64 14) w' := by
  have CK := Lib.hid (fun W => clock_any tm W)
  rw [hc] at CK
  have HL := Lib.hid h
  have C := Lib.hid (member_any L.g i (sfind_none h i hi hs))
  obtain ⟨g, hg⟩ : ∃ g, g = L.g := ⟨_, rfl⟩
  rw [← hg] at C ⊢
  clear h hg hc hs
  go_enter Try.func11, Try.ntmps11
  go_wp2_with fail
  refine C.out.mono ?_
  rintro e w1 ⟨rfl, hw1⟩
  obtain rfl := hw1.symm
  go_wp2_with fail
  refine (CK.out _).mono ?_
  rintro e w1 ⟨rfl, hw1⟩
  obtain rfl := hw1.symm
  go_wp2_with fail
  go_ret
  exact Turns.same HL.out (Below.refl _ _)
/-- a server is a member no more, and nothing is owed of it. -/
theorem leave_now (h : LAt w L st) (i : Nat) (hi : i < 64) (tm : Int) (hc : clockS tm = true) {s : Nat × P3} (hs : st.srv i = some s) (hn : ¬ st.now < tm) : Calls Try.prog 11 #[.pointer (some ⟨L.g, 0, none⟩), .int .i64 i, .int .i64 tm] w fun e w' => Turns w L { st with srv := upd st.srv i none } e (.int .i64 0) w' := by
  have CK := Lib.hid (fun W => clock_any tm W)
  rw [hc] at CK
  have C := Lib.hid (member_any L.g i (sfind_some h i hi hs))
  have x := h.led.sv i hi
  unfold srvPtr at x
  rw [hs] at x
  have fx := h.led.froz (3 + i)
  have lg := led_lt h
  have x0 := h.led.now
  have d1 : decide (st.now < tm) = false := decide_eq_false hn
  have hiz : (i : Int) < 64 := by omega
  have HP := Lib.hid (And.intro (h.clearSrv hi) (next_set (w := w) (o := 3 + i) (v := .pointer none) h.led.role))
  unfold ptr at C x
  obtain ⟨g, hg⟩ : ∃ g, g = L.g := ⟨_, rfl⟩
  rw [← hg] at C x fx lg x0 HP ⊢
  generalize st.now = sn at *
  generalize L.mb i = m at *
  clear h hg hc hs hn
  go_enter Try.func11, Try.ntmps11
  go_wp2_with fail
  refine C.out.mono ?_
  rintro e w1 ⟨rfl, hw1⟩
  obtain rfl := hw1.symm
  go_wp2_with fail
  refine (CK.out _).mono ?_
  rintro e w1 ⟨rfl, hw1⟩
  obtain rfl := hw1.symm
  go_wp2_with fail
  go_ret
  exact ⟨rfl, L, HP.out.1, HP.out.2⟩
end
end Go.Proofs.Ytmcilmmnpolieaa
/- What ledger.Leave turns where a server's params are owed yet. Each theorem's premises are its conditions. -/
namespace Go.Proofs.Ytmcilmmnpolieaa
open Go.ChangeShapes Go.WideShapes Go.ChangeAt Go.RowKit Go.Shelf Go.Deep

/-- behind an append whose slice goes into a domain. -/
def Appended (wc : World) (dk : Nat) (v : Value) (l : List Ow) (o : Ow) (wx : World) : Prop :=
  ∃ gg cap w11, wx = w11.setCell ⟨dk, 3, none⟩ (.slice (some ⟨gg, 0, none⟩) (l.length + 1) cap) ∧ OwnsO w11 (.slice (some ⟨gg, 0, none⟩) (l.length + 1) cap) (l ++ [o]) ∧
    (wc.drew.alloc (.cells #[.int .i64 o.id, .int .i64 o.till, .int .i64 o.p.1, .int .i64 o.p.2.1, .int .i64 o.p.2.2] 56)).grownBy w11 v.ownBlock ∧ (v.ownBlock = some gg ∨ wc.heap.size ≤ gg) ∧ w11.cell? ⟨dk, 3, none⟩ = some v ∧ w11.frozen? ⟨dk, 3, none⟩ = false
theorem own_app5 {w : World} {v : Value} {l : List Ow} {o : Ow} (h : w.ownsRow 0 56 5 v (l.length + 1) (ocells l ++ ocells [o])) : OwnsO w v (l ++ [o]) := by
  show w.ownsRow _ _ _ _ _ _
  rw [ocells_append, List.length_append]
  exact h
section
variable {w : World} {L : Lay} {st : LS} {n : Nat}
set_option maxHeartbeats 4000000 in
set_option maxRecDepth 100000 in
theorem leave_later (h : LAt w L st) (ho : LOk st n) (hn : n ≤ 60) (i : Nat) (hi : i < 64) (tm : Int) (hc : clockS tm = true) {dn : Nat} {p : P3} (hs : st.srv i = some (dn, p)) (hlt : st.now < tm) :
    Calls Try.prog 11 #[.pointer (some ⟨L.g, 0, none⟩), .int .i64 i, .int .i64 tm] w fun e w' => Turns w L { st with srv := upd st.srv i none, dom := upd st.dom dn (owe (st.dom dn) ⟨i, tm, p⟩) } e (.int .i64 0) w' := by
  have CK := Lib.hid (fun W => clock_any tm W)
  rw [hc] at CK
  have C := Lib.hid (member_any L.g i (sfind_some h i hi hs))
  have hdn := ho.srv i hi dn p hs
  have x := h.led.sv i hi
  unfold srvPtr at x
  rw [hs] at x
  have fx := h.led.froz (3 + i)
  have lg := led_lt h
  have x0 := h.led.now
  have d1 : decide (st.now < tm) = true := decide_eq_true hlt
  have hiz : (i : Int) < 64 := by omega
  have h1 := h.clearSrv hi
  have HP := Lib.hid (And.intro h1 (next_set (w := w) (o := 3 + i) (v := .pointer none) h.led.role))
  have hM := h.mem i hi
  rw [hs] at hM
  obtain ⟨hrm, _, c0, c1, c2, c3⟩ := hM
  simp only [Nat.reduceAdd] at c1 c2 c3
  have hmg : L.mb i ≠ L.g := role_ne hrm h.led.role (by simp)
  have lm := role_lt h hrm
  obtain ⟨bd, dcap, edv, hbd, hdc, hrb, hcell⟩ := doms_shape h.doms ho.nd.1
  have xdv := h.led.dv
  rw [edv] at xdv
  have hbg : bd ≠ L.g := role_ne hrb h.led.role (by simp)
  have y := hcell dn hdn
  have hD := h.dom dn hdn
  have hdz : (dn : Int) < (st.nd : Int) := by omega
  have hdg : L.db dn ≠ L.g := role_ne hD.role h.led.role (by simp)
  have ld := role_lt h hD.role
  have yo := hD.ov
  have fo := hD.froz 3
  have hlen : (L.ol dn).length ≤ 60 := Nat.le_trans (ol_len h ho hdn) hn
  have hown := hD.own
  have hOk : ∀ o ∈ L.ol dn, OwOk o := fun o hm => ho.ow dn hdn o (hD.perm.mem_iff.1 hm)
  have hOkN : OwOk ⟨i, tm, p⟩ := by
    unfold clockS at hc
    simp at hc
    exact ⟨by simp only; omega, by simp only; omega, hc.1, hc.2⟩
  have hperm : (L.ol dn ++ [(⟨i, tm, p⟩ : Ow)]).Perm (owe (st.dom dn) ⟨i, tm, p⟩).owed := hD.perm.append_right _
  have hvd : (L.ov dn).ownBlock ≠ some (L.db dn) := fun e => role_ne (hD.orole _ e) hD.role (by simp) rfl
  have hvg : (L.ov dn).ownBlock ≠ some L.g := fun e => role_ne (hD.orole _ e) h.led.role (by simp) rfl
  obtain ⟨av, cv, hav⟩ : ∃ a c, L.ov dn = .slice a (L.ol dn).length c := by
    rcases owed_shape hown with ⟨e, e0⟩ | ⟨gg, cc, e, _⟩
    · exact ⟨none, 0, by rw [e, e0]; rfl⟩
    · exact ⟨_, _, e⟩
  rw [hav] at yo hown hvd hvg
  have HAV := Lib.hid hav
  have HDN := Lib.hid hdn
  have HOK := Lib.hid (And.intro hOk hOkN)
  have HPM := Lib.hid hperm
  have HOWN := Lib.hid hown
  obtain ⟨i0, hinf, hz0, hz1, hz2⟩ := info_parts Try.infoOwe
  unfold ptr at C x y
  obtain ⟨g, hg⟩ : ∃ g, g = L.g := ⟨_, rfl⟩
  rw [← hg] at C x fx lg x0 HP hmg hbg xdv hdg hvg ⊢
  have HG := Lib.hid hg
  obtain ⟨dk, hdk⟩ : ∃ m, m = L.db dn := ⟨_, rfl⟩
  rw [← hdk] at y hdg ld yo fo hvd
  have HDK := Lib.hid hdk
  obtain ⟨l, hl⟩ : ∃ l, l = L.ol dn := ⟨_, rfl⟩
  rw [← hl] at hlen HAV yo hown hvd hvg HOWN HOK HPM
  have HLL := Lib.hid hl
  have HLT := Lib.hid hlt
  generalize hsn : st.now = sn at *
  generalize hnd : st.nd = nd at *
  generalize L.mb i = m at *
  clear h h1 hg hc hs ho hD hlt hdn hcell edv hOk hOkN hperm hav hown hdk hl hrm hrb
  go_enter Try.func11, Try.ntmps11
  go_wp2_with fail
  refine C.out.mono ?_
  rintro e w1 ⟨rfl, hw1⟩
  obtain rfl := hw1.symm
  go_wp2_with fail
  refine (CK.out _).mono ?_
  rintro e w1 ⟨rfl, hw1⟩
  obtain rfl := hw1.symm
  go_wp2_with fail
  go_cut [9] from 43 to 52 (fun s wx => s = .pointer (some ⟨dk, 0, none⟩) ∧ Below (w.setCell ⟨g, 3 + i, none⟩ (.pointer none)).heap.size (w.setCell ⟨g, 3 + i, none⟩ (.pointer none)) wx)
  case first =>
    go_region
    all_goals go_wp2_with fail
    all_goals go_meet
    all_goals exact ⟨rfl, by (repeat (first | with_reducible refine bel_drew ?_)); exact Below.refl _ _⟩
  case rest =>
    obtain ⟨rfl, b1⟩ := hcut
    have hL1 := HP.out.1.below b1
    have hD1 := hL1.dom dn HDN.out
    have yo1 := hD1.ov
    have fo1 := hD1.froz 3
    have ho1 := hD1.own
    rw [HAV.out, ← HLL.out] at ho1
    rw [HAV.out, ← HDK.out] at yo1
    rw [← HDK.out] at fo1
    have ld1 : dk < wc.heap.size := cell_lt yo1
    have hmr : ∀ o, wc.cell? ⟨m, o, none⟩ = w.cell? ⟨m, o, none⟩ := fun o => ((b1.cell (p := ⟨m, o, none⟩) (by rw [World.size_setCell]; exact lm))).trans (World.cell?_setCell_other _ _ _ _ (fun e => hmg (congrArg Addr.block e).symm))
    have m1 := (hmr 1).trans c1
    have m2 := (hmr 2).trans c2
    have m3 := (hmr 3).trans c3
    have lm1 : m < wc.heap.size := cell_lt m1
    have HO1 := Lib.hid ho1
    have HL1 := Lib.hid hL1
    have HN1 := Lib.hid (HP.out.2.trans (Next.of_below L b1))
    clear hL1 hD1 ho1 hmr b1 c0 c1 c2 c3 x fx x0 y yo fo
    go_upto_region 11 with fail
    go_cut [9] from 53 to 68 (fun s wx => s = .pointer (some ⟨dk, 0, none⟩) ∧ Appended wc dk (.slice av l.length cv) l ⟨i, tm, p⟩ wx)
    case first =>
      go_region_law (refine step_append_lies _ rfl (.tmp 57) (.tmp 65) 44 rfl 0 56 i0 (.agg #[.int .i64 0, .int .i64 0, .int .i64 0, .int .i64 0, .int .i64 0]) 5 40 Try.underlying44 hinf hz0 hz1 hz2 rfl (by decide) (.slice av l.length cv) l.length (ocells l) rfl (World.ownsRow.alloc (World.ownsRow.drew HO1.out) _) ⟨wc.heap.size, 0, none⟩ 1 1 (ocells [⟨i, tm, p⟩]) rfl rfl (new_row5 ⟨i, tm, p⟩ wc.drew) (ocells_one _) (by omega) (by unfold maxLen; omega) (by omega) (Nat.zero_le _) _ rfl ?_; intro g2 cap2 w11 hown11 hgrow hat hlt2; have s0 := (hgrow.cell_far ⟨dk, 3, none⟩ (by simp; omega) (Ne.symm hvd)).trans (cell_alloc (o := .cells #[.int .i64 i, .int .i64 tm, .int .i64 p.1, .int .i64 p.2.1, .int .i64 p.2.2] 56) (show wc.drew.cell? ⟨dk, 3, none⟩ = _ from yo1)); have sf := (hgrow.frozen_far ⟨dk, 3, none⟩ (by simp; omega) (Ne.symm hvd)).trans ((World.frozen?_alloc_old _ _ _ (by show dk ≠ _; simp; omega)).trans (show wc.drew.frozen? ⟨dk, 3, none⟩ = false from fo1)); have sl : dk < w11.heap.size := cell_lt s0)
      all_goals go_wp2_with fail
      all_goals go_meet
      all_goals exact ⟨rfl, g2, cap2, w11, rfl, own_app5 hown11, hgrow, hat.imp id (fun e => by rw [e]; simp), s0, sf⟩
    case rest =>
      obtain ⟨rfl, gg, cap, w11, rfl, o11, hgrow, hat, s0, sf⟩ := hcut
      have hgd : gg ≠ dk := fun e => by
        rcases hat with h1 | h1
        · exact hvd (by rw [h1, e])
        · omega
      have z3 := World.cell?_setCell_same w11 ⟨dk, 3, none⟩ (.slice (some ⟨gg, 0, none⟩) (l.length + 1) cap) s0
      have oX : OwnsO (w11.setCell ⟨dk, 3, none⟩ (.slice (some ⟨gg, 0, none⟩) (l.length + 1) cap)) (.slice (some ⟨gg, 0, none⟩) (l.length + 1) cap) (l ++ [⟨i, tm, p⟩]) := own_same o11 fun b hb => by
        cases hb
        exact Below.heap_setCell _ _ _ _ hgd
      have hl1 : (l ++ [(⟨i, tm, p⟩ : Ow)]).length = l.length + 1 := by simp
      have SO := sortO (g := gg) (cap := cap) (l := l ++ [⟨i, tm, p⟩]) (w := w11.setCell ⟨dk, 3, none⟩ (.slice (some ⟨gg, 0, none⟩) (l.length + 1) cap)) (by rw [hl1]; exact oX) (fun o hm => by
        rcases List.mem_append.1 hm with h1 | h1
        · exact HOK.out.1 o h1
        · rw [List.mem_singleton] at h1; rw [h1]; exact HOK.out.2) (by rw [hl1]; omega)
      rw [hl1] at SO
      have ld11 : dk < w11.heap.size := cell_lt s0
      have HSO := Lib.hid SO
      have HGR := Lib.hid hgrow
      have HAT := Lib.hid hat
      clear SO oX o11 hgrow hat hl1 sf
      generalize hwx : w11.setCell ⟨dk, 3, none⟩ (.slice (some ⟨gg, 0, none⟩) (l.length + 1) cap) = wx at *
      have lx : dk < wx.heap.size := by rw [← hwx, World.size_setCell]; exact ld11
      have HWX := Lib.hid hwx
      have HS0 := Lib.hid s0
      clear hwx s0
      go_wp2_with fail
      refine HSO.out.mono ?_
      rintro e w12 ⟨rfl, l', hp, hso, ho12, hon⟩
      have hgw : Only wc w12 fun k => k = L.db dn ∨ (L.ov dn).ownBlock = some k := by
        have o1 : Only wc w11 fun k => k = L.db dn ∨ (L.ov dn).ownBlock = some k := (Only.of_below (bel_alloc (bel_drew (Below.refl wc.heap.size wc)))).grown HGR.out fun k e => .inl (.inr (by rw [HAV.out]; exact e))
        have o2 := o1.set (a := ⟨dk, 3, none⟩) (.inl (.inl HDK.out)) (.slice (some ⟨gg, 0, none⟩) (l.length + 1) cap)
        rw [HWX.out] at o2
        refine o2.trans hon fun k hk hlt => ?_
        rw [hk] at hlt ⊢
        rcases HAT.out with h1 | h1
        · exact .inr (by rw [HAV.out]; exact h1)
        · omega
      have hsd : Same wx w12 dk := hon.block dk lx (fun e => hgd e.symm)
      have hsc : Same wc w11 dk := (HGR.out.block dk (by simp; omega) (fun e => hvd e.symm)).trans (Below.heap_alloc _ _ _ ld1)
      have dcell : ∀ o, o ≠ 3 → w12.cell? ⟨L.db dn, o, none⟩ = wc.cell? ⟨L.db dn, o, none⟩ := fun o ho => by
        rw [← HDK.out, hsd.cell, ← HWX.out, set_other ho, hsc.cell]
      have dfroz : ∀ o, w12.frozen? ⟨L.db dn, o, none⟩ = wc.frozen? ⟨L.db dn, o, none⟩ := fun o => by
        rw [← HDK.out, hsd.froz, ← HWX.out, World.frozen?_setCell, hsc.froz]
      obtain ⟨L', hL', hN', _⟩ := HL1.out.setOwed3 (i := dn) (by show dn < nd; exact HDN.out) hgw dcell dfroz (by rw [← HDK.out, hsd.cell]; exact z3) ho12 (fun k e => by
        cases e
        rcases HAT.out with h1 | h1
        · exact .inl (by rw [HAV.out]; exact h1)
        · exact .inr h1) (hp.trans HPM.out) hso
      have HLF := Lib.hid hL'
      have HNF := Lib.hid (HN1.out.trans hN')
      clear hL' hN' hgw hsd hsc dcell dfroz ho12 hon hp hso
      go_wp2_with fail
      go_ret
      subst hsn
      subst hnd
      exact ⟨rfl, L', HLF.out, HNF.out⟩
end
end Go.Proofs.Ytmcilmmnpolieaa
/- What ledger.Leave and ledger.Move answer of any server, domain and time. Each theorem's premises are its conditions. -/
namespace Go.Proofs.Ytmcilmmnpolieaa
open Go.ChangeShapes Go.WideShapes Go.ChangeAt Go.RowKit Go.Shelf Go.Deep

section
variable {w : World} {L : Lay} {st : LS} {n : Nat}
theorem leave_any (h : LAt w L st) (ho : LOk st n) (hn : n ≤ 60) (id tm : Int) : Calls Try.prog 11 #[.pointer (some ⟨L.g, 0, none⟩), .int .i64 id, .int .i64 tm] w fun e w' => Turns w L (leaveS st id tm).1 e (.int .i64 (leaveS st id tm).2) w' := by
  by_cases hid : 0 ≤ id ∧ id < 64
  · obtain ⟨i, rfl⟩ : ∃ k : Nat, id = k := ⟨id.toNat, by omega⟩
    have hi : i < 64 := by omega
    cases hc : clockS tm with
    | false =>
      have e : leaveS st i tm = (st, 10) := by unfold leaveS; rw [if_pos hid, if_neg (by rw [hc]; simp)]
      rw [e]; exact leave_clock h i hi tm hc
    | true =>
      cases hs : st.srv i with
      | none =>
        have e : leaveS st i tm = (st, 14) := by unfold leaveS; rw [if_pos hid, if_pos hc]; simp only [Int.toNat_natCast, hs]
        rw [e]; exact leave_none h i hi tm hc hs
      | some s =>
        obtain ⟨dn, p⟩ := s
        have e : leaveS st i tm = ({ st with srv := upd st.srv i none, dom := if st.now < tm then upd st.dom dn (owe (st.dom dn) ⟨i, tm, p⟩) else st.dom }, 0) := by unfold leaveS; rw [if_pos hid, if_pos hc]; simp only [Int.toNat_natCast, hs]
        rw [e]
        by_cases hlt : st.now < tm
        · simp only [if_pos hlt]; exact leave_later h ho hn i hi tm hc hs hlt
        · simp only [if_neg hlt]; exact leave_now h i hi tm hc hs hlt
  · have e : leaveS st id tm = (st, 10) := by unfold leaveS; rw [if_neg hid]
    rw [e]; exact leave_out h id tm hid
theorem move_out (h : LAt w L st) (id d tm : Int) (hid : ¬ (0 ≤ id ∧ id < 64)) : Calls Try.prog 12 #[.pointer (some ⟨L.g, 0, none⟩), .int .i64 id, .int .i64 d, .int .i64 tm] w fun e w' => Turns w L st e (.int .i64 10) w' := by
  have C := Lib.hid (member_any L.g id (sfind_out (w := w) id hid ⟨L.g, 3, none⟩))
  have HL := Lib.hid h
  obtain ⟨g, hg⟩ : ∃ g, g = L.g := ⟨_, rfl⟩
  rw [← hg] at C ⊢
  clear h hg hid
  go_enter Try.func12, Try.ntmps12
  go_wp2_with fail
  refine C.out.mono ?_
  rintro e w1 ⟨rfl, hw1⟩
  obtain rfl := hw1.symm
  go_wp2_with fail
  go_ret
  exact Turns.same HL.out (Below.refl _ _)
theorem move_clock (h : LAt w L st) (i : Nat) (hi : i < 64) (d tm : Int) (hc : clockS tm = false) : Calls Try.prog 12 #[.pointer (some ⟨L.g, 0, none⟩), .int .i64 i, .int .i64 d, .int .i64 tm] w fun e w' => Turns w L st e (.int .i64 10) w' := by
  have CK := Lib.hid (fun W => clock_any tm W)
  rw [hc] at CK
  have HL := Lib.hid h
  have hm : ∃ r z, ((z : Int) == 2) = false ∧ ((z : Int) == 10) = false ∧ Hid (Calls Try.prog 30 #[.pointer (some ⟨L.g, 0, none⟩), .int .i64 i] w fun e w' => e = .returned (.tuple #[r, .int .i64 z]) ∧ w' = w) := by
    cases hs : st.srv i with
    | none => exact ⟨_, 14, rfl, rfl, member_any L.g i (sfind_none h i hi hs)⟩
    | some s => exact ⟨_, 0, rfl, rfl, member_any L.g i (sfind_some h i hi hs)⟩
  obtain ⟨r, z, d1, d2, C⟩ := hm
  obtain ⟨g, hg⟩ : ∃ g, g = L.g := ⟨_, rfl⟩
  rw [← hg] at C ⊢
  clear h hg hc
  go_enter Try.func12, Try.ntmps12
  go_wp2_with fail
  refine C.out.mono ?_
  rintro e w1 ⟨rfl, hw1⟩
  obtain rfl := hw1.symm
  go_wp2_with fail
  refine (CK.out _).mono ?_
  rintro e w1 ⟨rfl, hw1⟩
  obtain rfl := hw1.symm
  go_wp2_with fail
  go_ret
  exact Turns.same HL.out (Below.refl _ _)
theorem move_none (h : LAt w L st) (i : Nat) (hi : i < 64) (d tm : Int) (hc : clockS tm = true) (hs : st.srv i = none) : Calls Try.prog 12 #[.pointer (some ⟨L.g, 0, none⟩), .int .i64 i, .int .i64 d, .int .i64 tm] w fun e w' => Turns w L st e (.int .i64 14) w' := by
  have CK := Lib.hid (fun W => clock_any tm W)
  rw [hc] at CK
  have HL := Lib.hid h
  have C := Lib.hid (member_any L.g i (sfind_none h i hi hs))
  obtain ⟨g, hg⟩ : ∃ g, g = L.g := ⟨_, rfl⟩
  rw [← hg] at C ⊢
  clear h hg hc hs
  go_enter Try.func12, Try.ntmps12
  go_wp2_with fail
  refine C.out.mono ?_
  rintro e w1 ⟨rfl, hw1⟩
  obtain rfl := hw1.symm
  go_wp2_with fail
  refine (CK.out _).mono ?_
  rintro e w1 ⟨rfl, hw1⟩
  obtain rfl := hw1.symm
  go_wp2_with fail
  go_ret
  exact Turns.same HL.out (Below.refl _ _)
set_option maxHeartbeats 2000000 in
theorem move_some (h : LAt w L st) (ho : LOk st n) (hn : n ≤ 60) (i : Nat) (hi : i < 64) (d tm : Int) (hc : clockS tm = true) {dn : Nat} {p : P3} (hs : st.srv i = some (dn, p)) :
    Calls Try.prog 12 #[.pointer (some ⟨L.g, 0, none⟩), .int .i64 i, .int .i64 d, .int .i64 tm] w fun e w' => Turns w L (moveS st i d tm).1 e (.int .i64 (moveS st i d tm).2) w' := by
  have hid : (0 : Int) ≤ (i : Int) ∧ (i : Int) < 64 := by omega
  have HE : Hid (moveS st i d tm = if (dn : Int) = d then (st, 15) else if passS st d (-1) p = 0 then joinS (leaveS st i tm).1 i d p else (st, passS st d (-1) p)) := by
    show _ = _; unfold moveS; rw [if_pos hid, if_pos hc]; simp only [Int.toNat_natCast, hs]
  rw [HE.out]
  have CK := Lib.hid (fun W => clock_any tm W)
  rw [hc] at CK
  have C := Lib.hid (member_any L.g i (sfind_some h i hi hs))
  have hM := h.mem i hi
  rw [hs] at hM
  obtain ⟨hrm, _, c0, c1, c2, c3⟩ := hM
  simp only [Nat.reduceAdd] at c1 c2 c3
  have lm := role_lt h hrm
  have hlmn : L.mb i ≠ w.heap.size := by omega
  have lm1 : L.mb i < w.heap.size + 1 := by omega
  have b1 := bel_alloc (Below.refl w.heap.size w) (o := .cells #[.int .i64 p.1, .int .i64 p.2.1, .int .i64 p.2.2] 24)
  have h1 := h.below b1
  have HL := Lib.hid h
  have HB := Lib.hid b1
  have HO := Lib.hid ho
  unfold ptr at C
  by_cases hd : (dn : Int) = d
  · rw [if_pos hd]
    have d1 : ((dn : Int) == d) = true := by rw [beq_iff_eq]; exact hd
    obtain ⟨g, hg⟩ : ∃ g, g = L.g := ⟨_, rfl⟩
    rw [← hg] at C ⊢
    generalize L.mb i = m at *
    clear h ho h1 b1 hg hc hs hd HE hrm
    go_enter Try.func12, Try.ntmps12
    go_wp2_with fail
    refine C.out.mono ?_
    rintro e w1 ⟨rfl, hw1⟩
    obtain rfl := hw1.symm
    go_wp2_with fail
    refine (CK.out _).mono ?_
    rintro e w1 ⟨rfl, hw1⟩
    obtain rfl := hw1.symm
    go_wp2_with fail
    go_ret
    exact Turns.same HL.out HB.out
  · rw [if_neg hd]
    have d1 : ((dn : Int) == d) = false := by rw [beq_eq_false_iff_ne]; exact hd
    have PA := Lib.hid (passes_any h1 ho (by omega) d (-1) p)
    by_cases hp : passS st d (-1) p = 0
    · rw [if_pos hp]
      rw [hp] at PA
      obtain ⟨g, hg⟩ : ∃ g, g = L.g := ⟨_, rfl⟩
      rw [← hg] at C PA ⊢
      have HG := Lib.hid hg
      generalize L.mb i = m at *
      clear h ho h1 b1 hg hc hs hd HE hrm hp
      go_enter Try.func12, Try.ntmps12
      go_wp2_with fail
      refine C.out.mono ?_
      rintro e w1 ⟨rfl, hw1⟩
      obtain rfl := hw1.symm
      go_wp2_with fail
      refine (CK.out _).mono ?_
      rintro e w1 ⟨rfl, hw1⟩
      obtain rfl := hw1.symm
      go_wp2_with fail
      refine PA.out.mono ?_
      rintro e w2 ⟨rfl, b2⟩
      have hb2 : Below w.heap.size w w2 := bel_end HB.out b2
      have hL2 := HL.out.below hb2
      have LV := Lib.hid (leave_any hL2 HO.out hn i tm)
      rw [← HG.out] at LV
      have q0 := (b2.cell (p := ⟨w.heap.size, 0, none⟩) (by simp)).trans (show _ = some (Value.int .i64 p.1) by go_simp)
      have q1 := (b2.cell (p := ⟨w.heap.size, 1, none⟩) (by simp)).trans (show _ = some (Value.int .i64 p.2.1) by go_simp)
      have q2 := (b2.cell (p := ⟨w.heap.size, 2, none⟩) (by simp)).trans (show _ = some (Value.int .i64 p.2.2) by go_simp)
      have lq2 : w.heap.size < w2.heap.size := cell_lt q0
      have HB2 := Lib.hid hb2
      clear hb2 hL2 b2 c0 c1 c2 c3
      go_wp2_with fail
      refine LV.out.mono ?_
      rintro e w3 ⟨rfl, L3, h3, n3⟩
      have hsame : Same w2 w3 w.heap.size := n3.only.block _ lq2 (fun hne => hne (by
        cases hr : L.role w.heap.size with
        | none => rfl
        | some r => have := role_lt HL.out hr; omega))
      have r0 := (hsame.cell 0).trans q0
      have r1 := (hsame.cell 1).trans q1
      have r2 := (hsame.cell 2).trans q2
      have lq3 : w.heap.size < w3.heap.size := cell_lt r0
      have JN := Lib.hid (join_any h3 (leave_ok HO.out i tm) (by omega) i d p)
      rw [n3.g, ← HG.out] at JN
      have HN3 := Lib.hid ((Next.of_below L HB2.out).trans n3)
      clear h3 n3 hsame q0 q1 q2
      go_wp2_with fail
      refine JN.out.mono ?_
      rintro e w4 ⟨rfl, L4, h4, n4⟩
      have HF := Lib.hid (And.intro h4 (HN3.out.trans n4))
      clear h4 n4
      go_wp2_with fail
      go_ret
      exact ⟨rfl, L4, HF.out.1, HF.out.2⟩
    · rw [if_neg hp]
      generalize passS st d (-1) p = E at *
      have d2 : (E != 0) = true := by rw [bne_iff_ne]; exact hp
      obtain ⟨g, hg⟩ : ∃ g, g = L.g := ⟨_, rfl⟩
      rw [← hg] at C PA ⊢
      generalize L.mb i = m at *
      clear h ho h1 b1 hg hc hs hd HE hrm hp
      go_enter Try.func12, Try.ntmps12
      go_wp2_with fail
      refine C.out.mono ?_
      rintro e w1 ⟨rfl, hw1⟩
      obtain rfl := hw1.symm
      go_wp2_with fail
      refine (CK.out _).mono ?_
      rintro e w1 ⟨rfl, hw1⟩
      obtain rfl := hw1.symm
      go_wp2_with fail
      refine PA.out.mono ?_
      rintro e w2 ⟨rfl, b2⟩
      go_wp2_with fail
      go_ret
      exact Turns.same HL.out (bel_end HB.out b2)
theorem move_any (h : LAt w L st) (ho : LOk st n) (hn : n ≤ 60) (id d tm : Int) : Calls Try.prog 12 #[.pointer (some ⟨L.g, 0, none⟩), .int .i64 id, .int .i64 d, .int .i64 tm] w fun e w' => Turns w L (moveS st id d tm).1 e (.int .i64 (moveS st id d tm).2) w' := by
  by_cases hid : 0 ≤ id ∧ id < 64
  · obtain ⟨i, rfl⟩ : ∃ k : Nat, id = k := ⟨id.toNat, by omega⟩
    have hi : i < 64 := by omega
    cases hc : clockS tm with
    | false =>
      have e : moveS st i d tm = (st, 10) := by unfold moveS; rw [if_pos hid, if_neg (by rw [hc]; simp)]
      rw [e]; exact move_clock h i hi d tm hc
    | true =>
      cases hs : st.srv i with
      | none =>
        have e : moveS st i d tm = (st, 14) := by unfold moveS; rw [if_pos hid, if_pos hc]; simp only [Int.toNat_natCast, hs]
        rw [e]; exact move_none h i hi d tm hc hs
      | some s => exact move_some h ho hn i hi d tm hc hs
  · have e : moveS st id d tm = (st, 10) := by unfold moveS; rw [if_neg hid]
    rw [e]; exact move_out h id d tm hid
end
end Go.Proofs.Ytmcilmmnpolieaa
