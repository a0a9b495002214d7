/- The sort's merging of two sorted runs in place. Each theorem's premises are its conditions. -/
import Derived.Test.YtmcilmmnpolieaaK23
/- The sort's merging of two sorted runs in place. Each theorem's premises are its conditions. -/
namespace Go.Proofs.Ytmcilmmnpolieaa
open Go.RowKit Go.Shelf Go.Sort
attribute [local go_sem] Oper.semAt_some
section
variable {P : Program} {α : Type} [Inhabited α] {k : Nat} {enc : α → List Value}
def SymDone (enc : α → List Value) (k : Nat) (w0 : World) (blk off : Nat) (cf : α → α → Int) (a b : Nat) (d : Array α) (e : Ending) (w' : World) : Prop := ∃ d', e = .returned (.tuple #[]) ∧ SWK enc k w0 blk off d' w' ∧ Merged (ltOf cf) a b d d'
/-- what a step of the first binary search tells. -/
theorem up_first {lt : α → α → Bool} (hS : SWO lt) {d : Array α} {a m b h : Nat} (h2 : SortedIn lt m b d) (hb : h < b) (hl : lt d[h]! d[a]! = true) : ∀ c, m ≤ c → c < h + 1 → lt d[c]! d[a]! = true := by
  intro c hc hch
  cases e : lt d[c]! d[a]! with
  | true => rfl
  | false =>
    have := hS.ntrans _ _ _ (sort_le hS h2 (i := c) (j := h) hc (by omega) hb) e
    rw [hl] at this; cases this
theorem down_first {lt : α → α → Bool} (hS : SWO lt) {d : Array α} {a m b h : Nat} (h2 : SortedIn lt m b d) (hm : m ≤ h) (hl : lt d[h]! d[a]! = false) : ∀ c, h ≤ c → c < b → lt d[c]! d[a]! = false :=
  fun _ hc hcb => hS.ntrans _ _ _ (sort_le hS h2 hm hc hcb) hl
theorem up_last {lt : α → α → Bool} (hS : SWO lt) {d : Array α} {a m h : Nat} (h1 : SortedIn lt a m d) (hh : h < m) (hl : lt d[m]! d[h]! = false) : ∀ c, a ≤ c → c < h + 1 → lt d[m]! d[c]! = false :=
  fun _ hc hch => hS.ntrans _ _ _ hl (sort_le hS h1 hc (by omega) hh)
theorem down_last {lt : α → α → Bool} (hS : SWO lt) {d : Array α} {a m h : Nat} (h1 : SortedIn lt a m d) (ha : a ≤ h) (hl : lt d[m]! d[h]! = true) : ∀ c, h ≤ c → c < m → lt d[m]! d[c]! = true := by
  intro c hc hcm
  cases e : lt d[m]! d[c]! with
  | true => rfl
  | false =>
    have := hS.ntrans _ _ _ e (sort_le hS h1 (i := h) (j := c) ha hc hcm)
    rw [hl] at this; cases this
theorem up_main {lt : α → α → Bool} (hS : SWO lt) {d : Array α} {a m b lo h p : Nat} (h1 : SortedIn lt a m d) (h2 : SortedIn lt m b d) (hlo : a ≤ lo) (hh : h < m) (hp : m + h ≤ p) (hpb : p < b + lo) (hl : lt d[p - h]! d[h]! = false) : ∀ c, lo ≤ c → c < h + 1 → lt d[p - c]! d[c]! = false :=
  fun c hc hch => hS.ntrans _ _ _ (sort_le hS h2 (i := p - h) (j := p - c) (by omega) (by omega) (by omega)) (hS.ntrans _ _ _ hl (sort_le hS h1 (i := c) (j := h) (by omega) (by omega) hh))
theorem down_main {lt : α → α → Bool} (hS : SWO lt) {d : Array α} {a m b h hi p : Nat} (h1 : SortedIn lt a m d) (h2 : SortedIn lt m b d) (ha : a ≤ h) (hhi : hi ≤ m) (hp : m + hi ≤ p + 1) (hpb : p < b + h) (hl : lt d[p - h]! d[h]! = true) : ∀ c, h ≤ c → c < hi → lt d[p - c]! d[c]! = true := by
  intro c hc hch
  cases e : lt d[p - c]! d[c]! with
  | true => rfl
  | false =>
    have := hS.ntrans _ _ _ (sort_le hS h2 (i := p - c) (j := p - h) (by omega) (by omega) (by omega)) (hS.ntrans _ _ _ e (sort_le hS h1 (i := h) (j := c) ha hc (by omega)))
    rw [hl] at this; cases this
theorem rot_none {d : Array α} {s m e : Nat} (h : s = m ∨ m = e) : Rotated s m e d d := by
  refine ⟨permIn_refl d s e, fun x => ?_⟩
  unfold rotf
  rcases h with rfl | rfl
  · split
    · congr 1; omega
    · split
      · omega
      · rfl
  · split
    · omega
    · split
      · congr 1; omega
      · rfl
set_option maxHeartbeats 8000000 in
set_option maxRecDepth 1000000 in
theorem sym_first (L : SL P k) (cf : α → α → Int) (hS : SWO (ltOf cf)) (g : Nat) (cb : Array Value) (eg : ∀ args w, (callFunc g args).run P w = .ok (.enter g args) w) (blk off cap a m b : Nat) (d0 d : Array α) (w0 w : World) (R : RowK enc k w0 blk off d0) (hs : d0.size = d.size) (hC : CmpLays P g cb enc k cf blk off d.size w0) (S : SWK enc k w0 blk off d w) (ham : a < m) (hmb : m < b) (hb : b ≤ d.size) (hsz : d.size ≤ 100000) (h1 : SortedIn (ltOf cf) a m d) (h2 : SortedIn (ltOf cf) m b d) (hm : m = a + 1) : Calls P 68 #[.slice (some ⟨blk, off, none⟩) d.size cap, .int .i64 a, .int .i64 m, .int .i64 b, .func (.func g) #[] cb] w (SymDone enc k w0 blk off cf a b d) := by
  have mixed := L.mixed; have aE := L.aE; have zE := L.zE
  have t0 := L.t0; have a0 := L.a0; have z0 := L.z0; have v0 := L.v0
  have t3 := L.t3; have a3 := L.a3; have z3 := L.z3; have v3 := L.v3
  have t4 := L.t4; have a4 := L.a4; have z4 := L.z4; have v4 := L.v4
  have t44 := L.t44; have a44 := L.a44; have z44 := L.z44; have v44 := L.v44
  have t85 := L.t85; have a85 := L.a85; have z85 := L.z85; have v85 := L.v85
  have t128 := L.t128; have a128 := L.a128; have z128 := L.z128; have v128 := L.v128
  have F68 := L.f68
  have HC : Hid (CmpLays P g cb enc k cf blk off d.size w0) := hC
  have HS := Lib.hid hS
  have H1 := Lib.hid h1
  have H2 := Lib.hid h2
  have S0 : Aside (SWK enc k w0 blk off d w) := S
  clear S hC hS h1 h2
  have e0 : (((m : Int) - (a : Int)) == 1) = true := by rw [beq_iff_eq]; omega
  have HM := Lib.hid hm
  have hm1 : a + 1 ≤ m := by omega
  have hm2 : m ≤ a + 1 := by omega
  clear hm
  go_enter F68, Try.ntmps68
  clear F68
  go_wp2_with fail
  go_loopg [10, 11, 12] (b - m) (fun kx s10 s11 s12 wr => ∃ i j : Nat, s10 = .int .i64 i ∧ s11 = .int .i64 j ∧ m ≤ i ∧ i ≤ j ∧ j ≤ b ∧ j - i ≤ kx ∧ Aside (∀ c, m ≤ c → c < i → ltOf cf d[c]! d[a]! = true) ∧ Aside (∀ c, j ≤ c → c < b → ltOf cf d[c]! d[a]! = false) ∧ Aside (SWK enc k w0 blk off d wr))
  case atStart => exact ⟨m, b, rfl, rfl, Nat.le_refl _, by omega, Nat.le_refl _, by omega, (fun c h h' => by omega), (fun c h h' => by omega), S0⟩
  case round =>
    clear S0
    obtain ⟨i, j, rfl, rfl, hmi, hij, hjb, hkx, HU, HD, S1⟩ := hrel
    by_cases hlt : i < j
    · have hltz : (i : Int) < (j : Int) := by omega
      obtain ⟨h, hh⟩ : ∃ h, (i + j) / 2 = h := ⟨_, rfl⟩
      have hh1 : 2 * h ≤ i + j := by omega
      have hh2 : i + j < 2 * h + 2 := by omega
      cases hlv : ltOf cf d[h]! d[a]! with
      | true =>
        have HU2 : Aside (∀ c, m ≤ c → c < h + 1 → ltOf cf d[c]! d[a]! = true) := up_first HS.out H2.out (by omega) hlv
        have ea : (((i : Int) + (j : Int)) / 2).toNat = h := by omega
        have pa : (0 : Int) ≤ ((i : Int) + (j : Int)) / 2 := by omega
        have ba : ((i : Int) + (j : Int)) / 2 < (d.size : Int) := by omega
        have ra : IntKind.i64.wrap (((i : Int) + (j : Int)) / 2) = ((i : Int) + (j : Int)) / 2 := by rw [IntKind.wrap_i64]; omega
        have ec : ((a : Int)).toNat = a := by omega
        have pc : (0 : Int) ≤ (a : Int) := by omega
        have bc : (a : Int) < (d.size : Int) := by omega
        have rc : IntKind.i64.wrap ((a : Int)) = (a : Int) := by rw [IntKind.wrap_i64]; omega
        obtain ⟨xv, hxv⟩ : ∃ z, z = d[h]! := ⟨_, rfl⟩
        obtain ⟨yv, hyv⟩ : ∃ z, z = d[a]! := ⟨_, rfl⟩
        have la := S1.out.ld R (by omega) P (h) (by omega)
        have lb := S1.out.ld R (by omega) P (a) (by omega)
        rw [← hxv] at la
        rw [← hyv] at lb
        have hcg := S1.out.cmp HC.out (by omega) xv yv
        have hd : decide (cf xv yv < 0) = true := by rw [hxv, hyv]; exact hlv
        clear hxv hyv
        go_wp2_with fail
        go_quiet_grown (first | (go_at_fn g; refine Calls.grown_of (hcg _ _)))
        have S2 : Aside (SWK enc k w0 blk off d (grow (wr.drewN nq) osq)) := S1.out.grown nq osq
        clear la lb hcg S1
        generalize grow (wr.drewN nq) osq = w2 at S2 ⊢
        clear nq osq
        have HH := Lib.hid hh
        clear hh hlv
        go_wp2_with fail
        go_roundg (j - (h + 1))
        case measure => omega
        case rel => exact ⟨h + 1, j, by congr 1; omega, rfl, by omega, by omega, hjb, Nat.le_refl _, HU2, HD, S2⟩
      | false =>
        have HD2 : Aside (∀ c, h ≤ c → c < b → ltOf cf d[c]! d[a]! = false) := down_first HS.out H2.out (by omega) hlv
        have ea : (((i : Int) + (j : Int)) / 2).toNat = h := by omega
        have pa : (0 : Int) ≤ ((i : Int) + (j : Int)) / 2 := by omega
        have ba : ((i : Int) + (j : Int)) / 2 < (d.size : Int) := by omega
        have ra : IntKind.i64.wrap (((i : Int) + (j : Int)) / 2) = ((i : Int) + (j : Int)) / 2 := by rw [IntKind.wrap_i64]; omega
        have ec : ((a : Int)).toNat = a := by omega
        have pc : (0 : Int) ≤ (a : Int) := by omega
        have bc : (a : Int) < (d.size : Int) := by omega
        have rc : IntKind.i64.wrap ((a : Int)) = (a : Int) := by rw [IntKind.wrap_i64]; omega
        obtain ⟨xv, hxv⟩ : ∃ z, z = d[h]! := ⟨_, rfl⟩
        obtain ⟨yv, hyv⟩ : ∃ z, z = d[a]! := ⟨_, rfl⟩
        have la := S1.out.ld R (by omega) P (h) (by omega)
        have lb := S1.out.ld R (by omega) P (a) (by omega)
        rw [← hxv] at la
        rw [← hyv] at lb
        have hcg := S1.out.cmp HC.out (by omega) xv yv
        have hd : decide (cf xv yv < 0) = false := by rw [hxv, hyv]; exact hlv
        clear hxv hyv
        go_wp2_with fail
        go_quiet_grown (first | (go_at_fn g; refine Calls.grown_of (hcg _ _)))
        have S2 : Aside (SWK enc k w0 blk off d (grow (wr.drewN nq) osq)) := S1.out.grown nq osq
        clear la lb hcg S1
        generalize grow (wr.drewN nq) osq = w2 at S2 ⊢
        clear nq osq
        have HH := Lib.hid hh
        clear hh hlv
        go_wp2_with fail
        go_roundg (h - i)
        case measure => omega
        case rel => exact ⟨i, h, rfl, by congr 1; omega, hmi, by omega, by omega, Nat.le_refl _, HU, HD2, S2⟩
    · obtain rfl : i = j := by omega
      have hge : ¬ (i : Int) < (i : Int) := by omega
      have HM2 : Aside (Merged (ltOf cf) a b d (shiftRight d a (i - 1 - a))) := merge_first HS.out hb (by rw [← HM.out]; exact H2.out) (by omega) hjb (fun c hc hci => HU.out c (by omega) hci) HD.out
      clear HU HD
      obtain ⟨wo, rfl⟩ : ∃ wo : World, wo = wr := ⟨_, rfl⟩
      go_wp2_with fail
      go_loopg [13] (i - 1 - a) (fun kx s13 wr => ∃ q : Nat, s13 = .int .i64 ((a : Int) + (q : Int)) ∧ a + q ≤ i - 1 ∧ i - 1 - a - q ≤ kx ∧ Aside (SWK enc k w0 blk off (shiftRight d a q) wr))
      case atStart => exact ⟨0, by simp, by omega, by omega, S1⟩
      case round =>
        clear S1
        obtain ⟨q, rfl, hq, hkx2, S1⟩ := hrel
        have hz := shiftRight_size d a q
        by_cases hlt : a + q < i - 1
        · have hl1 : (a : Int) + (q : Int) < (i : Int) - 1 := by omega
          have hl2 : decide ((a : Int) + (q : Int) < (i : Int) - 1) = true := decide_eq_true hl1
          have ea : ((a : Int) + (q : Int)).toNat = a + q := by omega
          have pa : (0 : Int) ≤ (a : Int) + (q : Int) := by omega
          have ba : (a : Int) + (q : Int) < (d.size : Int) := by omega
          have ra : IntKind.i64.wrap ((a : Int) + (q : Int)) = (a : Int) + (q : Int) := by rw [IntKind.wrap_i64]; omega
          have ec : ((a : Int) + (q : Int) + 1).toNat = a + q + 1 := by omega
          have pc : (0 : Int) ≤ (a : Int) + (q : Int) + 1 := by omega
          have bc : (a : Int) + (q : Int) + 1 < (d.size : Int) := by omega
          have rc : IntKind.i64.wrap ((a : Int) + (q : Int) + 1) = (a : Int) + (q : Int) + 1 := by rw [IntKind.wrap_i64]; omega
          have S2 : Aside (SWK enc k w0 blk off (shiftRight d a (q + 1)) ((wr.drew.setCells blk (off + (a + q) * k) (enc (shiftRight d a q)[a + q + 1]!)).setCells blk (off + (a + q + 1) * k) (enc (shiftRight d a q)[a + q]!))) := S1.out.swapped R (a + q) (a + q + 1) (by omega) (by omega)
          have la := S1.out.ld1 R (by omega) P (a + q) (by omega)
          have lb := S1.out.ld1 R (by omega) P (a + q + 1) (by omega)
          have sa := S1.out.st1 R (by omega) P (a + q) (by omega) (shiftRight d a q)[a + q + 1]!
          have sb := S1.out.st2 R (by omega) P (a + q) (a + q + 1) (by omega) (by omega) (shiftRight d a q)[a + q + 1]! (shiftRight d a q)[a + q]!
          have na := R.hk (shiftRight d a q)[a + q]!
          have nb := R.hk (shiftRight d a q)[a + q + 1]!
          generalize enc (shiftRight d a q)[a + q]! = cA at S2 la sb na
          generalize enc (shiftRight d a q)[a + q + 1]! = cB at S2 lb sa sb nb
          clear S1
          go_wp2_with fail
          go_big_region_o
          clear la lb sa sb
          generalize (wr.drew.setCells blk (off + (a + q) * k) cB).setCells blk (off + (a + q + 1) * k) cA = w2 at S2 ⊢
          go_wp2_with fail
          go_roundg (i - 1 - a - (q + 1))
          case measure => omega
          case rel => exact ⟨q + 1, by first | rfl | (congr 1; done) | (congr 1; omega) | (simp; omega), by omega, Nat.le_refl _, S2⟩
        · have hl1 : ¬ (a : Int) + (q : Int) < (i : Int) - 1 := by omega
          have hl2 : decide ((a : Int) + (q : Int) < (i : Int) - 1) = false := decide_eq_false hl1
          obtain rfl : q = i - 1 - a := by omega
          go_wp2_with fail
          first
            | go_end0
            | refine bodyPost_ret (results_none rfl _ _ _) rfl ?_
          exact ⟨_, rfl, S1.out, HM2.out⟩
set_option maxHeartbeats 8000000 in
set_option maxRecDepth 1000000 in
theorem sym_last (L : SL P k) (cf : α → α → Int) (hS : SWO (ltOf cf)) (g : Nat) (cb : Array Value) (eg : ∀ args w, (callFunc g args).run P w = .ok (.enter g args) w) (blk off cap a m b : Nat) (d0 d : Array α) (w0 w : World) (R : RowK enc k w0 blk off d0) (hs : d0.size = d.size) (hC : CmpLays P g cb enc k cf blk off d.size w0) (S : SWK enc k w0 blk off d w) (ham : a < m) (hmb : m < b) (hb : b ≤ d.size) (hsz : d.size ≤ 100000) (h1 : SortedIn (ltOf cf) a m d) (h2 : SortedIn (ltOf cf) m b d) (hm : m ≠ a + 1) (hb1 : b = m + 1) : Calls P 68 #[.slice (some ⟨blk, off, none⟩) d.size cap, .int .i64 a, .int .i64 m, .int .i64 b, .func (.func g) #[] cb] w (SymDone enc k w0 blk off cf a b d) := by
  have mixed := L.mixed; have aE := L.aE; have zE := L.zE
  have t0 := L.t0; have a0 := L.a0; have z0 := L.z0; have v0 := L.v0
  have t3 := L.t3; have a3 := L.a3; have z3 := L.z3; have v3 := L.v3
  have t4 := L.t4; have a4 := L.a4; have z4 := L.z4; have v4 := L.v4
  have t44 := L.t44; have a44 := L.a44; have z44 := L.z44; have v44 := L.v44
  have t85 := L.t85; have a85 := L.a85; have z85 := L.z85; have v85 := L.v85
  have t128 := L.t128; have a128 := L.a128; have z128 := L.z128; have v128 := L.v128
  have F68 := L.f68
  have HC : Hid (CmpLays P g cb enc k cf blk off d.size w0) := hC
  have HS := Lib.hid hS
  have H1 := Lib.hid h1
  have H2 := Lib.hid h2
  have S0 : Aside (SWK enc k w0 blk off d w) := S
  clear S hC hS h1 h2
  have e0 : (((m : Int) - (a : Int)) == 1) = false := by rw [beq_eq_false_iff_ne]; omega
  have e1 : (((b : Int) - (m : Int)) == 1) = true := by rw [beq_iff_eq]; omega
  have HM := Lib.hid hb1
  have hm1 : b ≤ m + 1 := by omega
  clear hm hb1
  go_enter F68, Try.ntmps68
  clear F68
  go_wp2_with fail
  go_loopg [14, 15, 16] (m - a) (fun kx s14 s15 s16 wr => ∃ i j : Nat, s14 = .int .i64 i ∧ s15 = .int .i64 j ∧ a ≤ i ∧ i ≤ j ∧ j ≤ m ∧ j - i ≤ kx ∧ Aside (∀ c, a ≤ c → c < i → ltOf cf d[m]! d[c]! = false) ∧ Aside (∀ c, j ≤ c → c < m → ltOf cf d[m]! d[c]! = true) ∧ Aside (SWK enc k w0 blk off d wr))
  case atStart => exact ⟨a, m, rfl, rfl, Nat.le_refl _, by omega, Nat.le_refl _, by omega, (fun c h h' => by omega), (fun c h h' => by omega), S0⟩
  case round =>
    clear S0
    obtain ⟨i, j, rfl, rfl, hai, hij, hjm, hkx, HU, HD, S1⟩ := hrel
    by_cases hlt : i < j
    · have hltz : (i : Int) < (j : Int) := by omega
      obtain ⟨h, hh⟩ : ∃ h, (i + j) / 2 = h := ⟨_, rfl⟩
      have hh1 : 2 * h ≤ i + j := by omega
      have hh2 : i + j < 2 * h + 2 := by omega
      cases hlv : ltOf cf d[m]! d[h]! with
      | false =>
        have HU2 : Aside (∀ c, a ≤ c → c < h + 1 → ltOf cf d[m]! d[c]! = false) := up_last HS.out H1.out (by omega) hlv
        have ea : ((m : Int)).toNat = m := by omega
        have pa : (0 : Int) ≤ (m : Int) := by omega
        have ba : (m : Int) < (d.size : Int) := by omega
        have ra : IntKind.i64.wrap ((m : Int)) = (m : Int) := by rw [IntKind.wrap_i64]; omega
        have ec : (((i : Int) + (j : Int)) / 2).toNat = h := by omega
        have pc : (0 : Int) ≤ ((i : Int) + (j : Int)) / 2 := by omega
        have bc : ((i : Int) + (j : Int)) / 2 < (d.size : Int) := by omega
        have rc : IntKind.i64.wrap (((i : Int) + (j : Int)) / 2) = ((i : Int) + (j : Int)) / 2 := by rw [IntKind.wrap_i64]; omega
        obtain ⟨xv, hxv⟩ : ∃ z, z = d[m]! := ⟨_, rfl⟩
        obtain ⟨yv, hyv⟩ : ∃ z, z = d[h]! := ⟨_, rfl⟩
        have la := S1.out.ld R (by omega) P (m) (by omega)
        have lb := S1.out.ld R (by omega) P (h) (by omega)
        rw [← hxv] at la
        rw [← hyv] at lb
        have hcg := S1.out.cmp HC.out (by omega) xv yv
        have hd : decide (cf xv yv < 0) = false := by rw [hxv, hyv]; exact hlv
        clear hxv hyv
        go_wp2_with fail
        go_quiet_grown (first | (go_at_fn g; refine Calls.grown_of (hcg _ _)))
        have S2 : Aside (SWK enc k w0 blk off d (grow (wr.drewN nq) osq)) := S1.out.grown nq osq
        clear la lb hcg S1
        generalize grow (wr.drewN nq) osq = w2 at S2 ⊢
        clear nq osq
        have HH := Lib.hid hh
        clear hh hlv
        go_wp2_with fail
        go_roundg (j - (h + 1))
        case measure => omega
        case rel => exact ⟨h + 1, j, by congr 1; omega, rfl, by omega, by omega, hjm, Nat.le_refl _, HU2, HD, S2⟩
      | true =>
        have HD2 : Aside (∀ c, h ≤ c → c < m → ltOf cf d[m]! d[c]! = true) := down_last HS.out H1.out (by omega) hlv
        have ea : ((m : Int)).toNat = m := by omega
        have pa : (0 : Int) ≤ (m : Int) := by omega
        have ba : (m : Int) < (d.size : Int) := by omega
        have ra : IntKind.i64.wrap ((m : Int)) = (m : Int) := by rw [IntKind.wrap_i64]; omega
        have ec : (((i : Int) + (j : Int)) / 2).toNat = h := by omega
        have pc : (0 : Int) ≤ ((i : Int) + (j : Int)) / 2 := by omega
        have bc : ((i : Int) + (j : Int)) / 2 < (d.size : Int) := by omega
        have rc : IntKind.i64.wrap (((i : Int) + (j : Int)) / 2) = ((i : Int) + (j : Int)) / 2 := by rw [IntKind.wrap_i64]; omega
        obtain ⟨xv, hxv⟩ : ∃ z, z = d[m]! := ⟨_, rfl⟩
        obtain ⟨yv, hyv⟩ : ∃ z, z = d[h]! := ⟨_, rfl⟩
        have la := S1.out.ld R (by omega) P (m) (by omega)
        have lb := S1.out.ld R (by omega) P (h) (by omega)
        rw [← hxv] at la
        rw [← hyv] at lb
        have hcg := S1.out.cmp HC.out (by omega) xv yv
        have hd : decide (cf xv yv < 0) = true := by rw [hxv, hyv]; exact hlv
        clear hxv hyv
        go_wp2_with fail
        go_quiet_grown (first | (go_at_fn g; refine Calls.grown_of (hcg _ _)))
        have S2 : Aside (SWK enc k w0 blk off d (grow (wr.drewN nq) osq)) := S1.out.grown nq osq
        clear la lb hcg S1
        generalize grow (wr.drewN nq) osq = w2 at S2 ⊢
        clear nq osq
        have HH := Lib.hid hh
        clear hh hlv
        go_wp2_with fail
        go_roundg (h - i)
        case measure => omega
        case rel => exact ⟨i, h, rfl, by congr 1; omega, hai, by omega, by omega, Nat.le_refl _, HU, HD2, S2⟩
    · obtain rfl : i = j := by omega
      have hge : ¬ (i : Int) < (i : Int) := by omega
      have HM2 : Aside (Merged (ltOf cf) a b d (shiftLeft d m (m - i))) := by
        show Merged _ _ _ _ _
        rw [HM.out]
        exact merge_last HS.out (by omega) H1.out hai hjm HU.out HD.out
      clear HU HD
      obtain ⟨wo, rfl⟩ : ∃ wo : World, wo = wr := ⟨_, rfl⟩
      go_wp2_with fail
      go_loopg [17] (m - i) (fun kx s17 wr => ∃ q : Nat, s17 = .int .i64 ((m : Int) - (q : Int)) ∧ q ≤ m - i ∧ m - i - q ≤ kx ∧ Aside (SWK enc k w0 blk off (shiftLeft d m q) wr))
      case atStart => exact ⟨0, by simp, by omega, by omega, S1⟩
      case round =>
        clear S1
        obtain ⟨q, rfl, hq, hkx2, S1⟩ := hrel
        have hz := shiftLeft_size d m q
        by_cases hlt : q < m - i
        · have hl1 : (i : Int) < (m : Int) - (q : Int) := by omega
          have hl2 : decide ((i : Int) < (m : Int) - (q : Int)) = true := decide_eq_true hl1
          have ea : ((m : Int) - (q : Int)).toNat = m - q := by omega
          have pa : (0 : Int) ≤ (m : Int) - (q : Int) := by omega
          have ba : (m : Int) - (q : Int) < (d.size : Int) := by omega
          have ra : IntKind.i64.wrap ((m : Int) - (q : Int)) = (m : Int) - (q : Int) := by rw [IntKind.wrap_i64]; omega
          have ec : ((m : Int) - (q : Int) - 1).toNat = m - q - 1 := by omega
          have pc : (0 : Int) ≤ (m : Int) - (q : Int) - 1 := by omega
          have bc : (m : Int) - (q : Int) - 1 < (d.size : Int) := by omega
          have rc : IntKind.i64.wrap ((m : Int) - (q : Int) - 1) = (m : Int) - (q : Int) - 1 := by rw [IntKind.wrap_i64]; omega
          have S2 : Aside (SWK enc k w0 blk off (shiftLeft d m (q + 1)) ((wr.drew.setCells blk (off + (m - q) * k) (enc (shiftLeft d m q)[m - q - 1]!)).setCells blk (off + (m - q - 1) * k) (enc (shiftLeft d m q)[m - q]!))) := S1.out.swapped R (m - q) (m - q - 1) (by omega) (by omega)
          have la := S1.out.ld1 R (by omega) P (m - q) (by omega)
          have lb := S1.out.ld1 R (by omega) P (m - q - 1) (by omega)
          have sa := S1.out.st1 R (by omega) P (m - q) (by omega) (shiftLeft d m q)[m - q - 1]!
          have sb := S1.out.st2 R (by omega) P (m - q) (m - q - 1) (by omega) (by omega) (shiftLeft d m q)[m - q - 1]! (shiftLeft d m q)[m - q]!
          have na := R.hk (shiftLeft d m q)[m - q]!
          have nb := R.hk (shiftLeft d m q)[m - q - 1]!
          generalize enc (shiftLeft d m q)[m - q]! = cA at S2 la sb na
          generalize enc (shiftLeft d m q)[m - q - 1]! = cB at S2 lb sa sb nb
          clear S1
          go_wp2_with fail
          go_big_region_o
          clear la lb sa sb
          generalize (wr.drew.setCells blk (off + (m - q) * k) cB).setCells blk (off + (m - q - 1) * k) cA = w2 at S2 ⊢
          go_wp2_with fail
          go_roundg (m - i - (q + 1))
          case measure => omega
          case rel => exact ⟨q + 1, by first | rfl | (congr 1; done) | (congr 1; omega) | (simp; omega), by omega, Nat.le_refl _, S2⟩
        · have hl1 : ¬ (i : Int) < (m : Int) - (q : Int) := by omega
          have hl2 : decide ((i : Int) < (m : Int) - (q : Int)) = false := decide_eq_false hl1
          obtain rfl : q = m - i := by omega
          go_wp2_with fail
          first
            | go_end0
            | refine bodyPost_ret (results_none rfl _ _ _) rfl ?_
          exact ⟨_, rfl, S1.out, HM2.out⟩
set_option maxHeartbeats 8000000 in
set_option maxRecDepth 1000000 in
theorem sym_right (L : SL P k) (cf : α → α → Int) (hS : SWO (ltOf cf)) (g : Nat) (cb : Array Value) (eg : ∀ args w, (callFunc g args).run P w = .ok (.enter g args) w) (blk off cap a m b : Nat) (d0 d : Array α) (w0 w : World) (R : RowK enc k w0 blk off d0) (hs : d0.size = d.size) (hC : CmpLays P g cb enc k cf blk off d.size w0) (S : SWK enc k w0 blk off d w) (ham : a < m) (hmb : m < b) (hb : b ≤ d.size) (hsz : d.size ≤ 100000) (h1 : SortedIn (ltOf cf) a m d) (h2 : SortedIn (ltOf cf) m b d) (_ : m ≠ a + 1) (hb1 : b ≠ m + 1) (hmid : (a + b) / 2 < m) (IH : ∀ (a' m' b' : Nat) (d' : Array α) (w' : World), b' - a' < b - a → d'.size = d.size → SWK enc k w0 blk off d' w' → a' < m' → m' < b' → b' ≤ d.size → SortedIn (ltOf cf) a' m' d' → SortedIn (ltOf cf) m' b' d' → Calls P 68 #[.slice (some ⟨blk, off, none⟩) d'.size cap, .int .i64 a', .int .i64 m', .int .i64 b', .func (.func g) #[] cb] w' (SymDone enc k w0 blk off cf a' b' d')) : Calls P 68 #[.slice (some ⟨blk, off, none⟩) d.size cap, .int .i64 a, .int .i64 m, .int .i64 b, .func (.func g) #[] cb] w (SymDone enc k w0 blk off cf a b d) := by
  have mixed := L.mixed; have aE := L.aE; have zE := L.zE
  have t0 := L.t0; have a0 := L.a0; have z0 := L.z0; have v0 := L.v0
  have t3 := L.t3; have a3 := L.a3; have z3 := L.z3; have v3 := L.v3
  have t4 := L.t4; have a4 := L.a4; have z4 := L.z4; have v4 := L.v4
  have t44 := L.t44; have a44 := L.a44; have z44 := L.z44; have v44 := L.v44
  have t85 := L.t85; have a85 := L.a85; have z85 := L.z85; have v85 := L.v85
  have t128 := L.t128; have a128 := L.a128; have z128 := L.z128; have v128 := L.v128
  have F68 := L.f68
  have HC : Hid (CmpLays P g cb enc k cf blk off d.size w0) := hC
  have HS := Lib.hid hS
  have H1 := Lib.hid h1
  have H2 := Lib.hid h2
  have S0 : Aside (SWK enc k w0 blk off d w) := S
  clear S hC hS h1 h2
  have IH := Lib.hid IH
  have e68 := L.e68
  have e79 := L.e79
  have e0 : (((m : Int) - (a : Int)) == 1) = false := by rw [beq_eq_false_iff_ne]; omega
  have e1 : (((b : Int) - (m : Int)) == 1) = false := by rw [beq_eq_false_iff_ne]; omega
  obtain ⟨M, hM⟩ : ∃ M, (a + b) / 2 = M := ⟨_, rfl⟩
  have hMz : ((a : Int) + (b : Int)) / 2 = (M : Int) := by omega
  have hM1 : 2 * M ≤ a + b := by omega
  have hM2 : a + b < 2 * M + 2 := by omega
  have d1 : decide ((M : Int) < (m : Int)) = true := decide_eq_true (by omega)
  have d1n : decide (M < m) = true := decide_eq_true (by omega)
  have hmid' : M < m := by omega
  have HMM := Lib.hid hM
  have HMZ := Lib.hid hMz
  obtain ⟨p, hp⟩ : ∃ p, M + m - 1 = p := ⟨_, rfl⟩
  have hpz : (M : Int) + (m : Int) - 1 = (p : Int) := by omega
  have hp1 : p + 1 = M + m := by omega
  have HPP := Lib.hid hp
  have HPZ := Lib.hid hpz
  have hp2 : p + 1 ≤ M + m := by omega
  have hp3 : M + m ≤ p + 1 := by omega
  clear hM hMz hp hpz hp1 hb1 hmid
  go_enter F68, Try.ntmps68
  clear F68
  go_upto_region 27 with fail
  rw [HMZ.out]
  go_upto_region 33 with fail
  rw [HPZ.out]
  go_loopg [20, 21, 23] (M - (M + m - b)) (fun kx s20 s21 s23 wr => ∃ s r : Nat, s20 = .int .i64 s ∧ s21 = .int .i64 r ∧ M + m - b ≤ s ∧ s ≤ r ∧ r ≤ M ∧ r - s ≤ kx ∧ Aside (∀ c, M + m - b ≤ c → c < s → ltOf cf d[p - c]! d[c]! = false) ∧ Aside (∀ c, r ≤ c → c < M → ltOf cf d[p - c]! d[c]! = true) ∧ Aside (SWK enc k w0 blk off d wr))
  case atStart => exact ⟨M + m - b, M, by first | rfl | (congr 1; omega), rfl, Nat.le_refl _, by omega, Nat.le_refl _, Nat.le_refl _, (fun c h h' => by omega), (fun c h h' => by omega), S0⟩
  case round =>
    clear S0
    obtain ⟨s, r, rfl, rfl, hls, hsr, hrh, hkx, HU, HD, S1⟩ := hrel
    by_cases hlt : s < r
    · have hltz : (s : Int) < (r : Int) := by omega
      obtain ⟨h, hh⟩ : ∃ h, (s + r) / 2 = h := ⟨_, rfl⟩
      have hh1 : 2 * h ≤ s + r := by omega
      have hh2 : s + r < 2 * h + 2 := by omega
      cases hlv : ltOf cf d[p - h]! d[h]! with
      | false =>
        have HU2 : Aside (∀ c, M + m - b ≤ c → c < h + 1 → ltOf cf d[p - c]! d[c]! = false) := up_main HS.out H1.out H2.out (by omega) (by omega) (by omega) (by omega) hlv
        have ea : ((p : Int) - ((s : Int) + (r : Int)) / 2).toNat = p - h := by omega
        have pa : (0 : Int) ≤ (p : Int) - ((s : Int) + (r : Int)) / 2 := by omega
        have pe : ((s : Int) + (r : Int)) / 2 ≤ (p : Int) := by omega
        have ba : (p : Int) - ((s : Int) + (r : Int)) / 2 < (d.size : Int) := by omega
        have ra : IntKind.i64.wrap ((p : Int) - ((s : Int) + (r : Int)) / 2) = (p : Int) - ((s : Int) + (r : Int)) / 2 := by rw [IntKind.wrap_i64]; omega
        have ec : (((s : Int) + (r : Int)) / 2).toNat = h := by omega
        have pc : (0 : Int) ≤ ((s : Int) + (r : Int)) / 2 := by omega
        have bc : ((s : Int) + (r : Int)) / 2 < (d.size : Int) := by omega
        have rc : IntKind.i64.wrap (((s : Int) + (r : Int)) / 2) = ((s : Int) + (r : Int)) / 2 := by rw [IntKind.wrap_i64]; omega
        obtain ⟨xv, hxv⟩ : ∃ z, z = d[p - h]! := ⟨_, rfl⟩
        obtain ⟨yv, hyv⟩ : ∃ z, z = d[h]! := ⟨_, rfl⟩
        have la := S1.out.ld R (by omega) P (p - h) (by omega)
        have lb := S1.out.ld R (by omega) P (h) (by omega)
        rw [← hxv] at la
        rw [← hyv] at lb
        have hcg := S1.out.cmp HC.out (by omega) xv yv
        have hd : decide (cf xv yv < 0) = false := by rw [hxv, hyv]; exact hlv
        clear hxv hyv
        go_wp2_with fail
        go_quiet_grown (first | (go_at_fn g; refine Calls.grown_of (hcg _ _)))
        have S2 : Aside (SWK enc k w0 blk off d (grow (wr.drewN nq) osq)) := S1.out.grown nq osq
        clear la lb hcg S1
        generalize grow (wr.drewN nq) osq = w2 at S2 ⊢
        clear nq osq
        have HH := Lib.hid hh
        clear hh hlv
        go_wp2_with fail
        go_roundg (r - (h + 1))
        case measure => omega
        case rel => exact ⟨h + 1, r, by congr 1; omega, rfl, by omega, by omega, hrh, Nat.le_refl _, HU2, HD, S2⟩
      | true =>
        have HD2 : Aside (∀ c, h ≤ c → c < M → ltOf cf d[p - c]! d[c]! = true) := down_main HS.out H1.out H2.out (by omega) (by omega) (by omega) (by omega) hlv
        have ea : ((p : Int) - ((s : Int) + (r : Int)) / 2).toNat = p - h := by omega
        have pa : (0 : Int) ≤ (p : Int) - ((s : Int) + (r : Int)) / 2 := by omega
        have pe : ((s : Int) + (r : Int)) / 2 ≤ (p : Int) := by omega
        have ba : (p : Int) - ((s : Int) + (r : Int)) / 2 < (d.size : Int) := by omega
        have ra : IntKind.i64.wrap ((p : Int) - ((s : Int) + (r : Int)) / 2) = (p : Int) - ((s : Int) + (r : Int)) / 2 := by rw [IntKind.wrap_i64]; omega
        have ec : (((s : Int) + (r : Int)) / 2).toNat = h := by omega
        have pc : (0 : Int) ≤ ((s : Int) + (r : Int)) / 2 := by omega
        have bc : ((s : Int) + (r : Int)) / 2 < (d.size : Int) := by omega
        have rc : IntKind.i64.wrap (((s : Int) + (r : Int)) / 2) = ((s : Int) + (r : Int)) / 2 := by rw [IntKind.wrap_i64]; omega
        obtain ⟨xv, hxv⟩ : ∃ z, z = d[p - h]! := ⟨_, rfl⟩
        obtain ⟨yv, hyv⟩ : ∃ z, z = d[h]! := ⟨_, rfl⟩
        have la := S1.out.ld R (by omega) P (p - h) (by omega)
        have lb := S1.out.ld R (by omega) P (h) (by omega)
        rw [← hxv] at la
        rw [← hyv] at lb
        have hcg := S1.out.cmp HC.out (by omega) xv yv
        have hd : decide (cf xv yv < 0) = true := by rw [hxv, hyv]; exact hlv
        clear hxv hyv
        go_wp2_with fail
        go_quiet_grown (first | (go_at_fn g; refine Calls.grown_of (hcg _ _)))
        have S2 : Aside (SWK enc k w0 blk off d (grow (wr.drewN nq) osq)) := S1.out.grown nq osq
        clear la lb hcg S1
        generalize grow (wr.drewN nq) osq = w2 at S2 ⊢
        clear nq osq
        have HH := Lib.hid hh
        clear hh hlv
        go_wp2_with fail
        go_roundg (h - s)
        case measure => omega
        case rel => exact ⟨s, h, rfl, by congr 1; omega, hls, by omega, by omega, Nat.le_refl _, HU, HD2, S2⟩
    · obtain rfl : s = r := by omega
      have hge : ¬ (s : Int) < (s : Int) := by omega
      have HPF : Hid (∀ d1, Rotated s m (M + m - s) d d1 → Parted (ltOf cf) a s M (M + m - s) b d1) := fun d1 hr => by
        have := parted_of HS.out (d := d) (d' := d1) (a := a) (m := m) (b := b) (s := s) H1.out H2.out (by rw [HMM.out]; exact hr) (by omega) (by omega) (by rw [HMM.out]; omega) (by rw [HMM.out]; omega) (by rw [HMM.out]; omega) (fun c h1 h2 h3 => by rw [HMM.out] at h2 ⊢; rw [HPP.out]; exact HU.out c (by omega) h3) (fun c h1 h2 h3 => by rw [HMM.out] at h3 ⊢; rw [HPP.out]; exact HD.out c h1 (by omega)) (by rw [HMM.out]; omega)
        rw [HMM.out] at this
        exact this
      clear HU HD
      obtain ⟨wo, rfl⟩ : ∃ wo : World, wo = wr := ⟨_, rfl⟩
      by_cases g0 : s < m ∧ m < M + m - s
      · have q3 : decide ((s : Int) < (m : Int)) = true := decide_eq_true (by omega)
        have q3n : decide (s < m) = true := decide_eq_true (by omega)
        have q3p : (s < m) := by omega
        have q4 : decide ((m : Int) < (M : Int) + (m : Int) - (s : Int)) = true := decide_eq_true (by omega)
        have q4p : ((m : Int) < (M : Int) + (m : Int) - (s : Int)) := by omega
        have C := rotate_any L blk off cap s m (M + m - s) (.func (.func g) #[] cb) d0 d w0 wo R hs S1.out (by omega) (by omega) (by omega) hsz
        rw [show ((M + m - s : Nat) : Int) = (M : Int) + (m : Int) - (s : Int) by omega] at C
        have HCC := Lib.hid C
        clear C g0 S1
        go_wp2_with fail
        refine HCC.out.mono ?_
        rintro e7 w7 ⟨d1, rfl, S7, hr1⟩
        have S7 := Lib.hid S7
        have HP0 : Hid (PermIn a b d d1) := permIn_mono _ _ _ _ a b (by omega) (by omega) hb hr1.1
        have HPT := Lib.hid (HPF.out d1 hr1)
        clear hr1 HCC q3 q4 HPF
        by_cases g1 : a < s ∧ s < M
        · have q1 : decide ((a : Int) < (s : Int)) = true := decide_eq_true (by omega)
          have q1n : decide (a < s) = true := decide_eq_true (by omega)
          have q1p : (a < s) := by omega
          have q2 : decide ((s : Int) < (M : Int)) = true := decide_eq_true (by omega)
          have q2n : decide (s < M) = true := decide_eq_true (by omega)
          have q2p : (s < M) := by omega
          have hz1 : d1.size = d.size := HP0.out.1
          have C := IH.out a s M d1 w7 (by omega) hz1 S7.out (by omega) (by omega) (by omega) HPT.out.a1 HPT.out.b1
          rw [hz1] at C
          have HCC := Lib.hid C
          clear C g1 hz1 S7
          go_wp2_with fail
          refine HCC.out.mono ?_
          rintro e8 w8 ⟨d2, rfl, S8, hm2⟩
          have S8 := Lib.hid S8
          have HP12 := Lib.hid hm2.1
          have O1 := Lib.hid hm2.2
          clear hm2 HCC q1 q2
          by_cases g2 : M < M + m - s ∧ M + m - s < b
          · have q1 : decide ((M : Int) < (M : Int) + (m : Int) - (s : Int)) = true := decide_eq_true (by omega)
            have q1p : ((M : Int) < (M : Int) + (m : Int) - (s : Int)) := by omega
            have q2 : decide ((M : Int) + (m : Int) - (s : Int) < (b : Int)) = true := decide_eq_true (by omega)
            have q2p : ((M : Int) + (m : Int) - (s : Int) < (b : Int)) := by omega
            have hz2 : d2.size = d.size := HP12.out.1.trans HP0.out.1
            have C := IH.out M (M + m - s) b d2 w8 (by omega) hz2 S8.out (by omega) (by omega) (by omega) (fun x y hx hxy hy => by rw [HP12.out.2.1 x (.inr hx), HP12.out.2.1 y (.inr (by omega))]; exact HPT.out.a2 x y hx hxy hy) (fun x y hx hxy hy => by rw [HP12.out.2.1 x (.inr (by omega)), HP12.out.2.1 y (.inr (by omega))]; exact HPT.out.b2 x y hx hxy hy)
            rw [show ((M + m - s : Nat) : Int) = (M : Int) + (m : Int) - (s : Int) by omega, hz2] at C
            have HCC := Lib.hid C
            clear C g2 hz2 S8
            go_wp2_with fail
            refine HCC.out.mono ?_
            rintro e9 w9 ⟨d3, rfl, S9, hm3⟩
            have S9 := Lib.hid S9
            have HM3 := Lib.hid hm3
            clear hm3 HCC
            go_wp2_with fail
            first
              | go_end0
              | refine bodyPost_ret (results_none rfl _ _ _) rfl ?_
            exact ⟨d3, rfl, S9.out, merged_of hb (by omega) (by omega) HP0.out HPT.out HP12.out O1.out HM3.out.1 HM3.out.2⟩
          · have O2 : Hid (SortedIn (ltOf cf) M b d2) := fun x y hx hxy hy => by
              rw [HP12.out.2.1 x (.inr hx), HP12.out.2.1 y (.inr (by omega))]
              by_cases z : M + m - s ≤ M
              · exact HPT.out.b2 x y (by omega) hxy hy
              · exact HPT.out.a2 x y hx hxy (by omega)
            by_cases z : M < M + m - s
            · have q1 : decide ((M : Int) < (M : Int) + (m : Int) - (s : Int)) = true := decide_eq_true (by omega)
              have q1p : ((M : Int) < (M : Int) + (m : Int) - (s : Int)) := by omega
              have q2 : decide ((M : Int) + (m : Int) - (s : Int) < (b : Int)) = false := decide_eq_false (by omega)
              have q2p : ¬ ((M : Int) + (m : Int) - (s : Int) < (b : Int)) := by omega
              clear g2 z
              go_wp2_with fail
              first
                | go_end0
                | refine bodyPost_ret (results_none rfl _ _ _) rfl ?_
              exact ⟨d2, rfl, S8.out, merged_of hb (by omega) (by omega) HP0.out HPT.out HP12.out O1.out (permIn_refl _ _ _) O2.out⟩
            · have q1 : decide ((M : Int) < (M : Int) + (m : Int) - (s : Int)) = false := decide_eq_false (by omega)
              have q1p : ¬ ((M : Int) < (M : Int) + (m : Int) - (s : Int)) := by omega
              clear g2 z
              go_wp2_with fail
              first
                | go_end0
                | refine bodyPost_ret (results_none rfl _ _ _) rfl ?_
              exact ⟨d2, rfl, S8.out, merged_of hb (by omega) (by omega) HP0.out HPT.out HP12.out O1.out (permIn_refl _ _ _) O2.out⟩
        · have O1 : Hid (SortedIn (ltOf cf) a M d1) := fun x y hx hxy hy => by
            by_cases z : s ≤ a
            · exact HPT.out.b1 x y (by omega) hxy hy
            · exact HPT.out.a1 x y hx hxy (by omega)
          have HP12 : Hid (PermIn a M d1 d1) := permIn_refl _ _ _
          by_cases z : a < s
          · have q1 : decide ((a : Int) < (s : Int)) = true := decide_eq_true (by omega)
            have q1n : decide (a < s) = true := decide_eq_true (by omega)
            have q1p : (a < s) := by omega
            have q2 : decide ((s : Int) < (M : Int)) = false := decide_eq_false (by omega)
            have q2n : decide (s < M) = false := decide_eq_false (by omega)
            have q2p : ¬ (s < M) := by omega
            clear g1 z
            by_cases g2 : M < M + m - s ∧ M + m - s < b
            · have q1 : decide ((M : Int) < (M : Int) + (m : Int) - (s : Int)) = true := decide_eq_true (by omega)
              have q1p : ((M : Int) < (M : Int) + (m : Int) - (s : Int)) := by omega
              have q2 : decide ((M : Int) + (m : Int) - (s : Int) < (b : Int)) = true := decide_eq_true (by omega)
              have q2p : ((M : Int) + (m : Int) - (s : Int) < (b : Int)) := by omega
              have hz2 : d1.size = d.size := HP12.out.1.trans HP0.out.1
              have C := IH.out M (M + m - s) b d1 w7 (by omega) hz2 S7.out (by omega) (by omega) (by omega) (fun x y hx hxy hy => by rw [HP12.out.2.1 x (.inr hx), HP12.out.2.1 y (.inr (by omega))]; exact HPT.out.a2 x y hx hxy hy) (fun x y hx hxy hy => by rw [HP12.out.2.1 x (.inr (by omega)), HP12.out.2.1 y (.inr (by omega))]; exact HPT.out.b2 x y hx hxy hy)
              rw [show ((M + m - s : Nat) : Int) = (M : Int) + (m : Int) - (s : Int) by omega, hz2] at C
              have HCC := Lib.hid C
              clear C g2 hz2 S7
              go_wp2_with fail
              refine HCC.out.mono ?_
              rintro e9 w9 ⟨d3, rfl, S9, hm3⟩
              have S9 := Lib.hid S9
              have HM3 := Lib.hid hm3
              clear hm3 HCC
              go_wp2_with fail
              first
                | go_end0
                | refine bodyPost_ret (results_none rfl _ _ _) rfl ?_
              exact ⟨d3, rfl, S9.out, merged_of hb (by omega) (by omega) HP0.out HPT.out HP12.out O1.out HM3.out.1 HM3.out.2⟩
            · have O2 : Hid (SortedIn (ltOf cf) M b d1) := fun x y hx hxy hy => by
                rw [HP12.out.2.1 x (.inr hx), HP12.out.2.1 y (.inr (by omega))]
                by_cases z : M + m - s ≤ M
                · exact HPT.out.b2 x y (by omega) hxy hy
                · exact HPT.out.a2 x y hx hxy (by omega)
              by_cases z : M < M + m - s
              · have q1 : decide ((M : Int) < (M : Int) + (m : Int) - (s : Int)) = true := decide_eq_true (by omega)
                have q1p : ((M : Int) < (M : Int) + (m : Int) - (s : Int)) := by omega
                have q2 : decide ((M : Int) + (m : Int) - (s : Int) < (b : Int)) = false := decide_eq_false (by omega)
                have q2p : ¬ ((M : Int) + (m : Int) - (s : Int) < (b : Int)) := by omega
                clear g2 z
                go_wp2_with fail
                first
                  | go_end0
                  | refine bodyPost_ret (results_none rfl _ _ _) rfl ?_
                exact ⟨d1, rfl, S7.out, merged_of hb (by omega) (by omega) HP0.out HPT.out HP12.out O1.out (permIn_refl _ _ _) O2.out⟩
              · have q1 : decide ((M : Int) < (M : Int) + (m : Int) - (s : Int)) = false := decide_eq_false (by omega)
                have q1p : ¬ ((M : Int) < (M : Int) + (m : Int) - (s : Int)) := by omega
                clear g2 z
                go_wp2_with fail
                first
                  | go_end0
                  | refine bodyPost_ret (results_none rfl _ _ _) rfl ?_
                exact ⟨d1, rfl, S7.out, merged_of hb (by omega) (by omega) HP0.out HPT.out HP12.out O1.out (permIn_refl _ _ _) O2.out⟩
          · have q1 : decide ((a : Int) < (s : Int)) = false := decide_eq_false (by omega)
            have q1n : decide (a < s) = false := decide_eq_false (by omega)
            have q1p : ¬ (a < s) := by omega
            clear g1 z
            by_cases g2 : M < M + m - s ∧ M + m - s < b
            · have q1 : decide ((M : Int) < (M : Int) + (m : Int) - (s : Int)) = true := decide_eq_true (by omega)
              have q1p : ((M : Int) < (M : Int) + (m : Int) - (s : Int)) := by omega
              have q2 : decide ((M : Int) + (m : Int) - (s : Int) < (b : Int)) = true := decide_eq_true (by omega)
              have q2p : ((M : Int) + (m : Int) - (s : Int) < (b : Int)) := by omega
              have hz2 : d1.size = d.size := HP12.out.1.trans HP0.out.1
              have C := IH.out M (M + m - s) b d1 w7 (by omega) hz2 S7.out (by omega) (by omega) (by omega) (fun x y hx hxy hy => by rw [HP12.out.2.1 x (.inr hx), HP12.out.2.1 y (.inr (by omega))]; exact HPT.out.a2 x y hx hxy hy) (fun x y hx hxy hy => by rw [HP12.out.2.1 x (.inr (by omega)), HP12.out.2.1 y (.inr (by omega))]; exact HPT.out.b2 x y hx hxy hy)
              rw [show ((M + m - s : Nat) : Int) = (M : Int) + (m : Int) - (s : Int) by omega, hz2] at C
              have HCC := Lib.hid C
              clear C g2 hz2 S7
              go_wp2_with fail
              refine HCC.out.mono ?_
              rintro e9 w9 ⟨d3, rfl, S9, hm3⟩
              have S9 := Lib.hid S9
              have HM3 := Lib.hid hm3
              clear hm3 HCC
              go_wp2_with fail
              first
                | go_end0
                | refine bodyPost_ret (results_none rfl _ _ _) rfl ?_
              exact ⟨d3, rfl, S9.out, merged_of hb (by omega) (by omega) HP0.out HPT.out HP12.out O1.out HM3.out.1 HM3.out.2⟩
            · have O2 : Hid (SortedIn (ltOf cf) M b d1) := fun x y hx hxy hy => by
                rw [HP12.out.2.1 x (.inr hx), HP12.out.2.1 y (.inr (by omega))]
                by_cases z : M + m - s ≤ M
                · exact HPT.out.b2 x y (by omega) hxy hy
                · exact HPT.out.a2 x y hx hxy (by omega)
              by_cases z : M < M + m - s
              · have q1 : decide ((M : Int) < (M : Int) + (m : Int) - (s : Int)) = true := decide_eq_true (by omega)
                have q1p : ((M : Int) < (M : Int) + (m : Int) - (s : Int)) := by omega
                have q2 : decide ((M : Int) + (m : Int) - (s : Int) < (b : Int)) = false := decide_eq_false (by omega)
                have q2p : ¬ ((M : Int) + (m : Int) - (s : Int) < (b : Int)) := by omega
                clear g2 z
                go_wp2_with fail
                first
                  | go_end0
                  | refine bodyPost_ret (results_none rfl _ _ _) rfl ?_
                exact ⟨d1, rfl, S7.out, merged_of hb (by omega) (by omega) HP0.out HPT.out HP12.out O1.out (permIn_refl _ _ _) O2.out⟩
              · have q1 : decide ((M : Int) < (M : Int) + (m : Int) - (s : Int)) = false := decide_eq_false (by omega)
                have q1p : ¬ ((M : Int) < (M : Int) + (m : Int) - (s : Int)) := by omega
                clear g2 z
                go_wp2_with fail
                first
                  | go_end0
                  | refine bodyPost_ret (results_none rfl _ _ _) rfl ?_
                exact ⟨d1, rfl, S7.out, merged_of hb (by omega) (by omega) HP0.out HPT.out HP12.out O1.out (permIn_refl _ _ _) O2.out⟩
      · have hr1 : Rotated s m (M + m - s) d d := rot_none (by omega)
        have HP0 : Hid (PermIn a b d d) := permIn_refl _ _ _
        have HPT := Lib.hid (HPF.out d hr1)
        clear hr1 HPF
        by_cases z : s < m
        · have q3 : decide ((s : Int) < (m : Int)) = true := decide_eq_true (by omega)
          have q3n : decide (s < m) = true := decide_eq_true (by omega)
          have q3p : (s < m) := by omega
          have q4 : decide ((m : Int) < (M : Int) + (m : Int) - (s : Int)) = false := decide_eq_false (by omega)
          have q4p : ¬ ((m : Int) < (M : Int) + (m : Int) - (s : Int)) := by omega
          clear g0 z
          by_cases g1 : a < s ∧ s < M
          · have q1 : decide ((a : Int) < (s : Int)) = true := decide_eq_true (by omega)
            have q1n : decide (a < s) = true := decide_eq_true (by omega)
            have q1p : (a < s) := by omega
            have q2 : decide ((s : Int) < (M : Int)) = true := decide_eq_true (by omega)
            have q2n : decide (s < M) = true := decide_eq_true (by omega)
            have q2p : (s < M) := by omega
            have hz1 : d.size = d.size := HP0.out.1
            have C := IH.out a s M d wo (by omega) hz1 S1.out (by omega) (by omega) (by omega) HPT.out.a1 HPT.out.b1
            rw [hz1] at C
            have HCC := Lib.hid C
            clear C g1 hz1 S1
            go_wp2_with fail
            refine HCC.out.mono ?_
            rintro e8 w8 ⟨d2, rfl, S8, hm2⟩
            have S8 := Lib.hid S8
            have HP12 := Lib.hid hm2.1
            have O1 := Lib.hid hm2.2
            clear hm2 HCC q1 q2
            by_cases g2 : M < M + m - s ∧ M + m - s < b
            · have q1 : decide ((M : Int) < (M : Int) + (m : Int) - (s : Int)) = true := decide_eq_true (by omega)
              have q1p : ((M : Int) < (M : Int) + (m : Int) - (s : Int)) := by omega
              have q2 : decide ((M : Int) + (m : Int) - (s : Int) < (b : Int)) = true := decide_eq_true (by omega)
              have q2p : ((M : Int) + (m : Int) - (s : Int) < (b : Int)) := by omega
              have hz2 : d2.size = d.size := HP12.out.1.trans HP0.out.1
              have C := IH.out M (M + m - s) b d2 w8 (by omega) hz2 S8.out (by omega) (by omega) (by omega) (fun x y hx hxy hy => by rw [HP12.out.2.1 x (.inr hx), HP12.out.2.1 y (.inr (by omega))]; exact HPT.out.a2 x y hx hxy hy) (fun x y hx hxy hy => by rw [HP12.out.2.1 x (.inr (by omega)), HP12.out.2.1 y (.inr (by omega))]; exact HPT.out.b2 x y hx hxy hy)
              rw [show ((M + m - s : Nat) : Int) = (M : Int) + (m : Int) - (s : Int) by omega, hz2] at C
              have HCC := Lib.hid C
              clear C g2 hz2 S8
              go_wp2_with fail
              refine HCC.out.mono ?_
              rintro e9 w9 ⟨d3, rfl, S9, hm3⟩
              have S9 := Lib.hid S9
              have HM3 := Lib.hid hm3
              clear hm3 HCC
              go_wp2_with fail
              first
                | go_end0
                | refine bodyPost_ret (results_none rfl _ _ _) rfl ?_
              exact ⟨d3, rfl, S9.out, merged_of hb (by omega) (by omega) HP0.out HPT.out HP12.out O1.out HM3.out.1 HM3.out.2⟩
            · have O2 : Hid (SortedIn (ltOf cf) M b d2) := fun x y hx hxy hy => by
                rw [HP12.out.2.1 x (.inr hx), HP12.out.2.1 y (.inr (by omega))]
                by_cases z : M + m - s ≤ M
                · exact HPT.out.b2 x y (by omega) hxy hy
                · exact HPT.out.a2 x y hx hxy (by omega)
              by_cases z : M < M + m - s
              · have q1 : decide ((M : Int) < (M : Int) + (m : Int) - (s : Int)) = true := decide_eq_true (by omega)
                have q1p : ((M : Int) < (M : Int) + (m : Int) - (s : Int)) := by omega
                have q2 : decide ((M : Int) + (m : Int) - (s : Int) < (b : Int)) = false := decide_eq_false (by omega)
                have q2p : ¬ ((M : Int) + (m : Int) - (s : Int) < (b : Int)) := by omega
                clear g2 z
                go_wp2_with fail
                first
                  | go_end0
                  | refine bodyPost_ret (results_none rfl _ _ _) rfl ?_
                exact ⟨d2, rfl, S8.out, merged_of hb (by omega) (by omega) HP0.out HPT.out HP12.out O1.out (permIn_refl _ _ _) O2.out⟩
              · have q1 : decide ((M : Int) < (M : Int) + (m : Int) - (s : Int)) = false := decide_eq_false (by omega)
                have q1p : ¬ ((M : Int) < (M : Int) + (m : Int) - (s : Int)) := by omega
                clear g2 z
                go_wp2_with fail
                first
                  | go_end0
                  | refine bodyPost_ret (results_none rfl _ _ _) rfl ?_
                exact ⟨d2, rfl, S8.out, merged_of hb (by omega) (by omega) HP0.out HPT.out HP12.out O1.out (permIn_refl _ _ _) O2.out⟩
          · have O1 : Hid (SortedIn (ltOf cf) a M d) := fun x y hx hxy hy => by
              by_cases z : s ≤ a
              · exact HPT.out.b1 x y (by omega) hxy hy
              · exact HPT.out.a1 x y hx hxy (by omega)
            have HP12 : Hid (PermIn a M d d) := permIn_refl _ _ _
            by_cases z : a < s
            · have q1 : decide ((a : Int) < (s : Int)) = true := decide_eq_true (by omega)
              have q1n : decide (a < s) = true := decide_eq_true (by omega)
              have q1p : (a < s) := by omega
              have q2 : decide ((s : Int) < (M : Int)) = false := decide_eq_false (by omega)
              have q2n : decide (s < M) = false := decide_eq_false (by omega)
              have q2p : ¬ (s < M) := by omega
              clear g1 z
              by_cases g2 : M < M + m - s ∧ M + m - s < b
              · have q1 : decide ((M : Int) < (M : Int) + (m : Int) - (s : Int)) = true := decide_eq_true (by omega)
                have q1p : ((M : Int) < (M : Int) + (m : Int) - (s : Int)) := by omega
                have q2 : decide ((M : Int) + (m : Int) - (s : Int) < (b : Int)) = true := decide_eq_true (by omega)
                have q2p : ((M : Int) + (m : Int) - (s : Int) < (b : Int)) := by omega
                have hz2 : d.size = d.size := HP12.out.1.trans HP0.out.1
                have C := IH.out M (M + m - s) b d wo (by omega) hz2 S1.out (by omega) (by omega) (by omega) (fun x y hx hxy hy => by rw [HP12.out.2.1 x (.inr hx), HP12.out.2.1 y (.inr (by omega))]; exact HPT.out.a2 x y hx hxy hy) (fun x y hx hxy hy => by rw [HP12.out.2.1 x (.inr (by omega)), HP12.out.2.1 y (.inr (by omega))]; exact HPT.out.b2 x y hx hxy hy)
                rw [show ((M + m - s : Nat) : Int) = (M : Int) + (m : Int) - (s : Int) by omega, hz2] at C
                have HCC := Lib.hid C
                clear C g2 hz2 S1
                go_wp2_with fail
                refine HCC.out.mono ?_
                rintro e9 w9 ⟨d3, rfl, S9, hm3⟩
                have S9 := Lib.hid S9
                have HM3 := Lib.hid hm3
                clear hm3 HCC
                go_wp2_with fail
                first
                  | go_end0
                  | refine bodyPost_ret (results_none rfl _ _ _) rfl ?_
                exact ⟨d3, rfl, S9.out, merged_of hb (by omega) (by omega) HP0.out HPT.out HP12.out O1.out HM3.out.1 HM3.out.2⟩
              · have O2 : Hid (SortedIn (ltOf cf) M b d) := fun x y hx hxy hy => by
                  rw [HP12.out.2.1 x (.inr hx), HP12.out.2.1 y (.inr (by omega))]
                  by_cases z : M + m - s ≤ M
                  · exact HPT.out.b2 x y (by omega) hxy hy
                  · exact HPT.out.a2 x y hx hxy (by omega)
                by_cases z : M < M + m - s
                · have q1 : decide ((M : Int) < (M : Int) + (m : Int) - (s : Int)) = true := decide_eq_true (by omega)
                  have q1p : ((M : Int) < (M : Int) + (m : Int) - (s : Int)) := by omega
                  have q2 : decide ((M : Int) + (m : Int) - (s : Int) < (b : Int)) = false := decide_eq_false (by omega)
                  have q2p : ¬ ((M : Int) + (m : Int) - (s : Int) < (b : Int)) := by omega
                  clear g2 z
                  go_wp2_with fail
                  first
                    | go_end0
                    | refine bodyPost_ret (results_none rfl _ _ _) rfl ?_
                  exact ⟨d, rfl, S1.out, merged_of hb (by omega) (by omega) HP0.out HPT.out HP12.out O1.out (permIn_refl _ _ _) O2.out⟩
                · have q1 : decide ((M : Int) < (M : Int) + (m : Int) - (s : Int)) = false := decide_eq_false (by omega)
                  have q1p : ¬ ((M : Int) < (M : Int) + (m : Int) - (s : Int)) := by omega
                  clear g2 z
                  go_wp2_with fail
                  first
                    | go_end0
                    | refine bodyPost_ret (results_none rfl _ _ _) rfl ?_
                  exact ⟨d, rfl, S1.out, merged_of hb (by omega) (by omega) HP0.out HPT.out HP12.out O1.out (permIn_refl _ _ _) O2.out⟩
            · have q1 : decide ((a : Int) < (s : Int)) = false := decide_eq_false (by omega)
              have q1n : decide (a < s) = false := decide_eq_false (by omega)
              have q1p : ¬ (a < s) := by omega
              clear g1 z
              by_cases g2 : M < M + m - s ∧ M + m - s < b
              · have q1 : decide ((M : Int) < (M : Int) + (m : Int) - (s : Int)) = true := decide_eq_true (by omega)
                have q1p : ((M : Int) < (M : Int) + (m : Int) - (s : Int)) := by omega
                have q2 : decide ((M : Int) + (m : Int) - (s : Int) < (b : Int)) = true := decide_eq_true (by omega)
                have q2p : ((M : Int) + (m : Int) - (s : Int) < (b : Int)) := by omega
                have hz2 : d.size = d.size := HP12.out.1.trans HP0.out.1
                have C := IH.out M (M + m - s) b d wo (by omega) hz2 S1.out (by omega) (by omega) (by omega) (fun x y hx hxy hy => by rw [HP12.out.2.1 x (.inr hx), HP12.out.2.1 y (.inr (by omega))]; exact HPT.out.a2 x y hx hxy hy) (fun x y hx hxy hy => by rw [HP12.out.2.1 x (.inr (by omega)), HP12.out.2.1 y (.inr (by omega))]; exact HPT.out.b2 x y hx hxy hy)
                rw [show ((M + m - s : Nat) : Int) = (M : Int) + (m : Int) - (s : Int) by omega, hz2] at C
                have HCC := Lib.hid C
                clear C g2 hz2 S1
                go_wp2_with fail
                refine HCC.out.mono ?_
                rintro e9 w9 ⟨d3, rfl, S9, hm3⟩
                have S9 := Lib.hid S9
                have HM3 := Lib.hid hm3
                clear hm3 HCC
                go_wp2_with fail
                first
                  | go_end0
                  | refine bodyPost_ret (results_none rfl _ _ _) rfl ?_
                exact ⟨d3, rfl, S9.out, merged_of hb (by omega) (by omega) HP0.out HPT.out HP12.out O1.out HM3.out.1 HM3.out.2⟩
              · have O2 : Hid (SortedIn (ltOf cf) M b d) := fun x y hx hxy hy => by
                  rw [HP12.out.2.1 x (.inr hx), HP12.out.2.1 y (.inr (by omega))]
                  by_cases z : M + m - s ≤ M
                  · exact HPT.out.b2 x y (by omega) hxy hy
                  · exact HPT.out.a2 x y hx hxy (by omega)
                by_cases z : M < M + m - s
                · have q1 : decide ((M : Int) < (M : Int) + (m : Int) - (s : Int)) = true := decide_eq_true (by omega)
                  have q1p : ((M : Int) < (M : Int) + (m : Int) - (s : Int)) := by omega
                  have q2 : decide ((M : Int) + (m : Int) - (s : Int) < (b : Int)) = false := decide_eq_false (by omega)
                  have q2p : ¬ ((M : Int) + (m : Int) - (s : Int) < (b : Int)) := by omega
                  clear g2 z
                  go_wp2_with fail
                  first
                    | go_end0
                    | refine bodyPost_ret (results_none rfl _ _ _) rfl ?_
                  exact ⟨d, rfl, S1.out, merged_of hb (by omega) (by omega) HP0.out HPT.out HP12.out O1.out (permIn_refl _ _ _) O2.out⟩
                · have q1 : decide ((M : Int) < (M : Int) + (m : Int) - (s : Int)) = false := decide_eq_false (by omega)
                  have q1p : ¬ ((M : Int) < (M : Int) + (m : Int) - (s : Int)) := by omega
                  clear g2 z
                  go_wp2_with fail
                  first
                    | go_end0
                    | refine bodyPost_ret (results_none rfl _ _ _) rfl ?_
                  exact ⟨d, rfl, S1.out, merged_of hb (by omega) (by omega) HP0.out HPT.out HP12.out O1.out (permIn_refl _ _ _) O2.out⟩
        · have q3 : decide ((s : Int) < (m : Int)) = false := decide_eq_false (by omega)
          have q3n : decide (s < m) = false := decide_eq_false (by omega)
          have q3p : ¬ (s < m) := by omega
          clear g0 z
          by_cases g1 : a < s ∧ s < M
          · have q1 : decide ((a : Int) < (s : Int)) = true := decide_eq_true (by omega)
            have q1n : decide (a < s) = true := decide_eq_true (by omega)
            have q1p : (a < s) := by omega
            have q2 : decide ((s : Int) < (M : Int)) = true := decide_eq_true (by omega)
            have q2n : decide (s < M) = true := decide_eq_true (by omega)
            have q2p : (s < M) := by omega
            have hz1 : d.size = d.size := HP0.out.1
            have C := IH.out a s M d wo (by omega) hz1 S1.out (by omega) (by omega) (by omega) HPT.out.a1 HPT.out.b1
            rw [hz1] at C
            have HCC := Lib.hid C
            clear C g1 hz1 S1
            go_wp2_with fail
            refine HCC.out.mono ?_
            rintro e8 w8 ⟨d2, rfl, S8, hm2⟩
            have S8 := Lib.hid S8
            have HP12 := Lib.hid hm2.1
            have O1 := Lib.hid hm2.2
            clear hm2 HCC q1 q2
            by_cases g2 : M < M + m - s ∧ M + m - s < b
            · have q1 : decide ((M : Int) < (M : Int) + (m : Int) - (s : Int)) = true := decide_eq_true (by omega)
              have q1p : ((M : Int) < (M : Int) + (m : Int) - (s : Int)) := by omega
              have q2 : decide ((M : Int) + (m : Int) - (s : Int) < (b : Int)) = true := decide_eq_true (by omega)
              have q2p : ((M : Int) + (m : Int) - (s : Int) < (b : Int)) := by omega
              have hz2 : d2.size = d.size := HP12.out.1.trans HP0.out.1
              have C := IH.out M (M + m - s) b d2 w8 (by omega) hz2 S8.out (by omega) (by omega) (by omega) (fun x y hx hxy hy => by rw [HP12.out.2.1 x (.inr hx), HP12.out.2.1 y (.inr (by omega))]; exact HPT.out.a2 x y hx hxy hy) (fun x y hx hxy hy => by rw [HP12.out.2.1 x (.inr (by omega)), HP12.out.2.1 y (.inr (by omega))]; exact HPT.out.b2 x y hx hxy hy)
              rw [show ((M + m - s : Nat) : Int) = (M : Int) + (m : Int) - (s : Int) by omega, hz2] at C
              have HCC := Lib.hid C
              clear C g2 hz2 S8
              go_wp2_with fail
              refine HCC.out.mono ?_
              rintro e9 w9 ⟨d3, rfl, S9, hm3⟩
              have S9 := Lib.hid S9
              have HM3 := Lib.hid hm3
              clear hm3 HCC
              go_wp2_with fail
              first
                | go_end0
                | refine bodyPost_ret (results_none rfl _ _ _) rfl ?_
              exact ⟨d3, rfl, S9.out, merged_of hb (by omega) (by omega) HP0.out HPT.out HP12.out O1.out HM3.out.1 HM3.out.2⟩
            · have O2 : Hid (SortedIn (ltOf cf) M b d2) := fun x y hx hxy hy => by
                rw [HP12.out.2.1 x (.inr hx), HP12.out.2.1 y (.inr (by omega))]
                by_cases z : M + m - s ≤ M
                · exact HPT.out.b2 x y (by omega) hxy hy
                · exact HPT.out.a2 x y hx hxy (by omega)
              by_cases z : M < M + m - s
              · have q1 : decide ((M : Int) < (M : Int) + (m : Int) - (s : Int)) = true := decide_eq_true (by omega)
                have q1p : ((M : Int) < (M : Int) + (m : Int) - (s : Int)) := by omega
                have q2 : decide ((M : Int) + (m : Int) - (s : Int) < (b : Int)) = false := decide_eq_false (by omega)
                have q2p : ¬ ((M : Int) + (m : Int) - (s : Int) < (b : Int)) := by omega
                clear g2 z
                go_wp2_with fail
                first
                  | go_end0
                  | refine bodyPost_ret (results_none rfl _ _ _) rfl ?_
                exact ⟨d2, rfl, S8.out, merged_of hb (by omega) (by omega) HP0.out HPT.out HP12.out O1.out (permIn_refl _ _ _) O2.out⟩
              · have q1 : decide ((M : Int) < (M : Int) + (m : Int) - (s : Int)) = false := decide_eq_false (by omega)
                have q1p : ¬ ((M : Int) < (M : Int) + (m : Int) - (s : Int)) := by omega
                clear g2 z
                go_wp2_with fail
                first
                  | go_end0
                  | refine bodyPost_ret (results_none rfl _ _ _) rfl ?_
                exact ⟨d2, rfl, S8.out, merged_of hb (by omega) (by omega) HP0.out HPT.out HP12.out O1.out (permIn_refl _ _ _) O2.out⟩
          · have O1 : Hid (SortedIn (ltOf cf) a M d) := fun x y hx hxy hy => by
              by_cases z : s ≤ a
              · exact HPT.out.b1 x y (by omega) hxy hy
              · exact HPT.out.a1 x y hx hxy (by omega)
            have HP12 : Hid (PermIn a M d d) := permIn_refl _ _ _
            by_cases z : a < s
            · have q1 : decide ((a : Int) < (s : Int)) = true := decide_eq_true (by omega)
              have q1n : decide (a < s) = true := decide_eq_true (by omega)
              have q1p : (a < s) := by omega
              have q2 : decide ((s : Int) < (M : Int)) = false := decide_eq_false (by omega)
              have q2n : decide (s < M) = false := decide_eq_false (by omega)
              have q2p : ¬ (s < M) := by omega
              clear g1 z
              by_cases g2 : M < M + m - s ∧ M + m - s < b
              · have q1 : decide ((M : Int) < (M : Int) + (m : Int) - (s : Int)) = true := decide_eq_true (by omega)
                have q1p : ((M : Int) < (M : Int) + (m : Int) - (s : Int)) := by omega
                have q2 : decide ((M : Int) + (m : Int) - (s : Int) < (b : Int)) = true := decide_eq_true (by omega)
                have q2p : ((M : Int) + (m : Int) - (s : Int) < (b : Int)) := by omega
                have hz2 : d.size = d.size := HP12.out.1.trans HP0.out.1
                have C := IH.out M (M + m - s) b d wo (by omega) hz2 S1.out (by omega) (by omega) (by omega) (fun x y hx hxy hy => by rw [HP12.out.2.1 x (.inr hx), HP12.out.2.1 y (.inr (by omega))]; exact HPT.out.a2 x y hx hxy hy) (fun x y hx hxy hy => by rw [HP12.out.2.1 x (.inr (by omega)), HP12.out.2.1 y (.inr (by omega))]; exact HPT.out.b2 x y hx hxy hy)
                rw [show ((M + m - s : Nat) : Int) = (M : Int) + (m : Int) - (s : Int) by omega, hz2] at C
                have HCC := Lib.hid C
                clear C g2 hz2 S1
                go_wp2_with fail
                refine HCC.out.mono ?_
                rintro e9 w9 ⟨d3, rfl, S9, hm3⟩
                have S9 := Lib.hid S9
                have HM3 := Lib.hid hm3
                clear hm3 HCC
                go_wp2_with fail
                first
                  | go_end0
                  | refine bodyPost_ret (results_none rfl _ _ _) rfl ?_
                exact ⟨d3, rfl, S9.out, merged_of hb (by omega) (by omega) HP0.out HPT.out HP12.out O1.out HM3.out.1 HM3.out.2⟩
              · have O2 : Hid (SortedIn (ltOf cf) M b d) := fun x y hx hxy hy => by
                  rw [HP12.out.2.1 x (.inr hx), HP12.out.2.1 y (.inr (by omega))]
                  by_cases z : M + m - s ≤ M
                  · exact HPT.out.b2 x y (by omega) hxy hy
                  · exact HPT.out.a2 x y hx hxy (by omega)
                by_cases z : M < M + m - s
                · have q1 : decide ((M : Int) < (M : Int) + (m : Int) - (s : Int)) = true := decide_eq_true (by omega)
                  have q1p : ((M : Int) < (M : Int) + (m : Int) - (s : Int)) := by omega
                  have q2 : decide ((M : Int) + (m : Int) - (s : Int) < (b : Int)) = false := decide_eq_false (by omega)
                  have q2p : ¬ ((M : Int) + (m : Int) - (s : Int) < (b : Int)) := by omega
                  clear g2 z
                  go_wp2_with fail
                  first
                    | go_end0
                    | refine bodyPost_ret (results_none rfl _ _ _) rfl ?_
                  exact ⟨d, rfl, S1.out, merged_of hb (by omega) (by omega) HP0.out HPT.out HP12.out O1.out (permIn_refl _ _ _) O2.out⟩
                · have q1 : decide ((M : Int) < (M : Int) + (m : Int) - (s : Int)) = false := decide_eq_false (by omega)
                  have q1p : ¬ ((M : Int) < (M : Int) + (m : Int) - (s : Int)) := by omega
                  clear g2 z
                  go_wp2_with fail
                  first
                    | go_end0
                    | refine bodyPost_ret (results_none rfl _ _ _) rfl ?_
                  exact ⟨d, rfl, S1.out, merged_of hb (by omega) (by omega) HP0.out HPT.out HP12.out O1.out (permIn_refl _ _ _) O2.out⟩
            · have q1 : decide ((a : Int) < (s : Int)) = false := decide_eq_false (by omega)
              have q1n : decide (a < s) = false := decide_eq_false (by omega)
              have q1p : ¬ (a < s) := by omega
              clear g1 z
              by_cases g2 : M < M + m - s ∧ M + m - s < b
              · have q1 : decide ((M : Int) < (M : Int) + (m : Int) - (s : Int)) = true := decide_eq_true (by omega)
                have q1p : ((M : Int) < (M : Int) + (m : Int) - (s : Int)) := by omega
                have q2 : decide ((M : Int) + (m : Int) - (s : Int) < (b : Int)) = true := decide_eq_true (by omega)
                have q2p : ((M : Int) + (m : Int) - (s : Int) < (b : Int)) := by omega
                have hz2 : d.size = d.size := HP12.out.1.trans HP0.out.1
                have C := IH.out M (M + m - s) b d wo (by omega) hz2 S1.out (by omega) (by omega) (by omega) (fun x y hx hxy hy => by rw [HP12.out.2.1 x (.inr hx), HP12.out.2.1 y (.inr (by omega))]; exact HPT.out.a2 x y hx hxy hy) (fun x y hx hxy hy => by rw [HP12.out.2.1 x (.inr (by omega)), HP12.out.2.1 y (.inr (by omega))]; exact HPT.out.b2 x y hx hxy hy)
                rw [show ((M + m - s : Nat) : Int) = (M : Int) + (m : Int) - (s : Int) by omega, hz2] at C
                have HCC := Lib.hid C
                clear C g2 hz2 S1
                go_wp2_with fail
                refine HCC.out.mono ?_
                rintro e9 w9 ⟨d3, rfl, S9, hm3⟩
                have S9 := Lib.hid S9
                have HM3 := Lib.hid hm3
                clear hm3 HCC
                go_wp2_with fail
                first
                  | go_end0
                  | refine bodyPost_ret (results_none rfl _ _ _) rfl ?_
                exact ⟨d3, rfl, S9.out, merged_of hb (by omega) (by omega) HP0.out HPT.out HP12.out O1.out HM3.out.1 HM3.out.2⟩
              · have O2 : Hid (SortedIn (ltOf cf) M b d) := fun x y hx hxy hy => by
                  rw [HP12.out.2.1 x (.inr hx), HP12.out.2.1 y (.inr (by omega))]
                  by_cases z : M + m - s ≤ M
                  · exact HPT.out.b2 x y (by omega) hxy hy
                  · exact HPT.out.a2 x y hx hxy (by omega)
                by_cases z : M < M + m - s
                · have q1 : decide ((M : Int) < (M : Int) + (m : Int) - (s : Int)) = true := decide_eq_true (by omega)
                  have q1p : ((M : Int) < (M : Int) + (m : Int) - (s : Int)) := by omega
                  have q2 : decide ((M : Int) + (m : Int) - (s : Int) < (b : Int)) = false := decide_eq_false (by omega)
                  have q2p : ¬ ((M : Int) + (m : Int) - (s : Int) < (b : Int)) := by omega
                  clear g2 z
                  go_wp2_with fail
                  first
                    | go_end0
                    | refine bodyPost_ret (results_none rfl _ _ _) rfl ?_
                  exact ⟨d, rfl, S1.out, merged_of hb (by omega) (by omega) HP0.out HPT.out HP12.out O1.out (permIn_refl _ _ _) O2.out⟩
                · have q1 : decide ((M : Int) < (M : Int) + (m : Int) - (s : Int)) = false := decide_eq_false (by omega)
                  have q1p : ¬ ((M : Int) < (M : Int) + (m : Int) - (s : Int)) := by omega
                  clear g2 z
                  go_wp2_with fail
                  first
                    | go_end0
                    | refine bodyPost_ret (results_none rfl _ _ _) rfl ?_
                  exact ⟨d, rfl, S1.out, merged_of hb (by omega) (by omega) HP0.out HPT.out HP12.out O1.out (permIn_refl _ _ _) O2.out⟩
set_option maxHeartbeats 8000000 in
set_option maxRecDepth 1000000 in
theorem sym_left (L : SL P k) (cf : α → α → Int) (hS : SWO (ltOf cf)) (g : Nat) (cb : Array Value) (eg : ∀ args w, (callFunc g args).run P w = .ok (.enter g args) w) (blk off cap a m b : Nat) (d0 d : Array α) (w0 w : World) (R : RowK enc k w0 blk off d0) (hs : d0.size = d.size) (hC : CmpLays P g cb enc k cf blk off d.size w0) (S : SWK enc k w0 blk off d w) (ham : a < m) (hmb : m < b) (hb : b ≤ d.size) (hsz : d.size ≤ 100000) (h1 : SortedIn (ltOf cf) a m d) (h2 : SortedIn (ltOf cf) m b d) (hm : m ≠ a + 1) (hb1 : b ≠ m + 1) (hmid : m ≤ (a + b) / 2) (IH : ∀ (a' m' b' : Nat) (d' : Array α) (w' : World), b' - a' < b - a → d'.size = d.size → SWK enc k w0 blk off d' w' → a' < m' → m' < b' → b' ≤ d.size → SortedIn (ltOf cf) a' m' d' → SortedIn (ltOf cf) m' b' d' → Calls P 68 #[.slice (some ⟨blk, off, none⟩) d'.size cap, .int .i64 a', .int .i64 m', .int .i64 b', .func (.func g) #[] cb] w' (SymDone enc k w0 blk off cf a' b' d')) : Calls P 68 #[.slice (some ⟨blk, off, none⟩) d.size cap, .int .i64 a, .int .i64 m, .int .i64 b, .func (.func g) #[] cb] w (SymDone enc k w0 blk off cf a b d) := by
  have mixed := L.mixed; have aE := L.aE; have zE := L.zE
  have t0 := L.t0; have a0 := L.a0; have z0 := L.z0; have v0 := L.v0
  have t3 := L.t3; have a3 := L.a3; have z3 := L.z3; have v3 := L.v3
  have t4 := L.t4; have a4 := L.a4; have z4 := L.z4; have v4 := L.v4
  have t44 := L.t44; have a44 := L.a44; have z44 := L.z44; have v44 := L.v44
  have t85 := L.t85; have a85 := L.a85; have z85 := L.z85; have v85 := L.v85
  have t128 := L.t128; have a128 := L.a128; have z128 := L.z128; have v128 := L.v128
  have F68 := L.f68
  have HC : Hid (CmpLays P g cb enc k cf blk off d.size w0) := hC
  have HS := Lib.hid hS
  have H1 := Lib.hid h1
  have H2 := Lib.hid h2
  have S0 : Aside (SWK enc k w0 blk off d w) := S
  clear S hC hS h1 h2
  have IH := Lib.hid IH
  have e68 := L.e68
  have e79 := L.e79
  have e0 : (((m : Int) - (a : Int)) == 1) = false := by rw [beq_eq_false_iff_ne]; omega
  have e1 : (((b : Int) - (m : Int)) == 1) = false := by rw [beq_eq_false_iff_ne]; omega
  obtain ⟨M, hM⟩ : ∃ M, (a + b) / 2 = M := ⟨_, rfl⟩
  have hMz : ((a : Int) + (b : Int)) / 2 = (M : Int) := by omega
  have hM1 : 2 * M ≤ a + b := by omega
  have hM2 : a + b < 2 * M + 2 := by omega
  have d1 : decide ((M : Int) < (m : Int)) = false := decide_eq_false (by omega)
  have d1n : decide (M < m) = false := decide_eq_false (by omega)
  have hmid' : m ≤ M := by omega
  have HMM := Lib.hid hM
  have HMZ := Lib.hid hMz
  obtain ⟨p, hp⟩ : ∃ p, M + m - 1 = p := ⟨_, rfl⟩
  have hpz : (M : Int) + (m : Int) - 1 = (p : Int) := by omega
  have hp1 : p + 1 = M + m := by omega
  have HPP := Lib.hid hp
  have HPZ := Lib.hid hpz
  have hp2 : p + 1 ≤ M + m := by omega
  have hp3 : M + m ≤ p + 1 := by omega
  clear hM hMz hp hpz hp1 hm hb1 hmid
  go_enter F68, Try.ntmps68
  clear F68
  go_upto_region 27 with fail
  rw [HMZ.out]
  go_upto_region 33 with fail
  rw [HPZ.out]
  go_loopg [20, 21, 23] (m - (a)) (fun kx s20 s21 s23 wr => ∃ s r : Nat, s20 = .int .i64 s ∧ s21 = .int .i64 r ∧ a ≤ s ∧ s ≤ r ∧ r ≤ m ∧ r - s ≤ kx ∧ Aside (∀ c, a ≤ c → c < s → ltOf cf d[p - c]! d[c]! = false) ∧ Aside (∀ c, r ≤ c → c < m → ltOf cf d[p - c]! d[c]! = true) ∧ Aside (SWK enc k w0 blk off d wr))
  case atStart => exact ⟨a, m, by first | rfl | (congr 1; omega), rfl, Nat.le_refl _, by omega, Nat.le_refl _, Nat.le_refl _, (fun c h h' => by omega), (fun c h h' => by omega), S0⟩
  case round =>
    clear S0
    obtain ⟨s, r, rfl, rfl, hls, hsr, hrh, hkx, HU, HD, S1⟩ := hrel
    by_cases hlt : s < r
    · have hltz : (s : Int) < (r : Int) := by omega
      obtain ⟨h, hh⟩ : ∃ h, (s + r) / 2 = h := ⟨_, rfl⟩
      have hh1 : 2 * h ≤ s + r := by omega
      have hh2 : s + r < 2 * h + 2 := by omega
      cases hlv : ltOf cf d[p - h]! d[h]! with
      | false =>
        have HU2 : Aside (∀ c, a ≤ c → c < h + 1 → ltOf cf d[p - c]! d[c]! = false) := up_main HS.out H1.out H2.out (by omega) (by omega) (by omega) (by omega) hlv
        have ea : ((p : Int) - ((s : Int) + (r : Int)) / 2).toNat = p - h := by omega
        have pa : (0 : Int) ≤ (p : Int) - ((s : Int) + (r : Int)) / 2 := by omega
        have pe : ((s : Int) + (r : Int)) / 2 ≤ (p : Int) := by omega
        have ba : (p : Int) - ((s : Int) + (r : Int)) / 2 < (d.size : Int) := by omega
        have ra : IntKind.i64.wrap ((p : Int) - ((s : Int) + (r : Int)) / 2) = (p : Int) - ((s : Int) + (r : Int)) / 2 := by rw [IntKind.wrap_i64]; omega
        have ec : (((s : Int) + (r : Int)) / 2).toNat = h := by omega
        have pc : (0 : Int) ≤ ((s : Int) + (r : Int)) / 2 := by omega
        have bc : ((s : Int) + (r : Int)) / 2 < (d.size : Int) := by omega
        have rc : IntKind.i64.wrap (((s : Int) + (r : Int)) / 2) = ((s : Int) + (r : Int)) / 2 := by rw [IntKind.wrap_i64]; omega
        obtain ⟨xv, hxv⟩ : ∃ z, z = d[p - h]! := ⟨_, rfl⟩
        obtain ⟨yv, hyv⟩ : ∃ z, z = d[h]! := ⟨_, rfl⟩
        have la := S1.out.ld R (by omega) P (p - h) (by omega)
        have lb := S1.out.ld R (by omega) P (h) (by omega)
        rw [← hxv] at la
        rw [← hyv] at lb
        have hcg := S1.out.cmp HC.out (by omega) xv yv
        have hd : decide (cf xv yv < 0) = false := by rw [hxv, hyv]; exact hlv
        clear hxv hyv
        go_wp2_with fail
        go_quiet_grown (first | (go_at_fn g; refine Calls.grown_of (hcg _ _)))
        have S2 : Aside (SWK enc k w0 blk off d (grow (wr.drewN nq) osq)) := S1.out.grown nq osq
        clear la lb hcg S1
        generalize grow (wr.drewN nq) osq = w2 at S2 ⊢
        clear nq osq
        have HH := Lib.hid hh
        clear hh hlv
        go_wp2_with fail
        go_roundg (r - (h + 1))
        case measure => omega
        case rel => exact ⟨h + 1, r, by congr 1; omega, rfl, by omega, by omega, hrh, Nat.le_refl _, HU2, HD, S2⟩
      | true =>
        have HD2 : Aside (∀ c, h ≤ c → c < m → ltOf cf d[p - c]! d[c]! = true) := down_main HS.out H1.out H2.out (by omega) (by omega) (by omega) (by omega) hlv
        have ea : ((p : Int) - ((s : Int) + (r : Int)) / 2).toNat = p - h := by omega
        have pa : (0 : Int) ≤ (p : Int) - ((s : Int) + (r : Int)) / 2 := by omega
        have pe : ((s : Int) + (r : Int)) / 2 ≤ (p : Int) := by omega
        have ba : (p : Int) - ((s : Int) + (r : Int)) / 2 < (d.size : Int) := by omega
        have ra : IntKind.i64.wrap ((p : Int) - ((s : Int) + (r : Int)) / 2) = (p : Int) - ((s : Int) + (r : Int)) / 2 := by rw [IntKind.wrap_i64]; omega
        have ec : (((s : Int) + (r : Int)) / 2).toNat = h := by omega
        have pc : (0 : Int) ≤ ((s : Int) + (r : Int)) / 2 := by omega
        have bc : ((s : Int) + (r : Int)) / 2 < (d.size : Int) := by omega
        have rc : IntKind.i64.wrap (((s : Int) + (r : Int)) / 2) = ((s : Int) + (r : Int)) / 2 := by rw [IntKind.wrap_i64]; omega
        obtain ⟨xv, hxv⟩ : ∃ z, z = d[p - h]! := ⟨_, rfl⟩
        obtain ⟨yv, hyv⟩ : ∃ z, z = d[h]! := ⟨_, rfl⟩
        have la := S1.out.ld R (by omega) P (p - h) (by omega)
        have lb := S1.out.ld R (by omega) P (h) (by omega)
        rw [← hxv] at la
        rw [← hyv] at lb
        have hcg := S1.out.cmp HC.out (by omega) xv yv
        have hd : decide (cf xv yv < 0) = true := by rw [hxv, hyv]; exact hlv
        clear hxv hyv
        go_wp2_with fail
        go_quiet_grown (first | (go_at_fn g; refine Calls.grown_of (hcg _ _)))
        have S2 : Aside (SWK enc k w0 blk off d (grow (wr.drewN nq) osq)) := S1.out.grown nq osq
        clear la lb hcg S1
        generalize grow (wr.drewN nq) osq = w2 at S2 ⊢
        clear nq osq
        have HH := Lib.hid hh
        clear hh hlv
        go_wp2_with fail
        go_roundg (h - s)
        case measure => omega
        case rel => exact ⟨s, h, rfl, by congr 1; omega, hls, by omega, by omega, Nat.le_refl _, HU, HD2, S2⟩
    · obtain rfl : s = r := by omega
      have hge : ¬ (s : Int) < (s : Int) := by omega
      have HPF : Hid (∀ d1, Rotated s m (M + m - s) d d1 → Parted (ltOf cf) a s M (M + m - s) b d1) := fun d1 hr => by
        have := parted_of HS.out (d := d) (d' := d1) (a := a) (m := m) (b := b) (s := s) H1.out H2.out (by rw [HMM.out]; exact hr) (by omega) (by omega) (by rw [HMM.out]; omega) (by rw [HMM.out]; omega) (by rw [HMM.out]; omega) (fun c h1 h2 h3 => by rw [HMM.out] at h2 ⊢; rw [HPP.out]; exact HU.out c (by omega) h3) (fun c h1 h2 h3 => by rw [HMM.out] at h3 ⊢; rw [HPP.out]; exact HD.out c h1 (by omega)) (by rw [HMM.out]; omega)
        rw [HMM.out] at this
        exact this
      clear HU HD
      obtain ⟨wo, rfl⟩ : ∃ wo : World, wo = wr := ⟨_, rfl⟩
      by_cases g0 : s < m ∧ m < M + m - s
      · have q3 : decide ((s : Int) < (m : Int)) = true := decide_eq_true (by omega)
        have q3n : decide (s < m) = true := decide_eq_true (by omega)
        have q3p : (s < m) := by omega
        have q4 : decide ((m : Int) < (M : Int) + (m : Int) - (s : Int)) = true := decide_eq_true (by omega)
        have q4p : ((m : Int) < (M : Int) + (m : Int) - (s : Int)) := by omega
        have C := rotate_any L blk off cap s m (M + m - s) (.func (.func g) #[] cb) d0 d w0 wo R hs S1.out (by omega) (by omega) (by omega) hsz
        rw [show ((M + m - s : Nat) : Int) = (M : Int) + (m : Int) - (s : Int) by omega] at C
        have HCC := Lib.hid C
        clear C g0 S1
        go_wp2_with fail
        refine HCC.out.mono ?_
        rintro e7 w7 ⟨d1, rfl, S7, hr1⟩
        have S7 := Lib.hid S7
        have HP0 : Hid (PermIn a b d d1) := permIn_mono _ _ _ _ a b (by omega) (by omega) hb hr1.1
        have HPT := Lib.hid (HPF.out d1 hr1)
        clear hr1 HCC q3 q4 HPF
        by_cases g1 : a < s ∧ s < M
        · have q1 : decide ((a : Int) < (s : Int)) = true := decide_eq_true (by omega)
          have q1n : decide (a < s) = true := decide_eq_true (by omega)
          have q1p : (a < s) := by omega
          have q2 : decide ((s : Int) < (M : Int)) = true := decide_eq_true (by omega)
          have q2n : decide (s < M) = true := decide_eq_true (by omega)
          have q2p : (s < M) := by omega
          have hz1 : d1.size = d.size := HP0.out.1
          have C := IH.out a s M d1 w7 (by omega) hz1 S7.out (by omega) (by omega) (by omega) HPT.out.a1 HPT.out.b1
          rw [hz1] at C
          have HCC := Lib.hid C
          clear C g1 hz1 S7
          go_wp2_with fail
          refine HCC.out.mono ?_
          rintro e8 w8 ⟨d2, rfl, S8, hm2⟩
          have S8 := Lib.hid S8
          have HP12 := Lib.hid hm2.1
          have O1 := Lib.hid hm2.2
          clear hm2 HCC q1 q2
          by_cases g2 : M < M + m - s ∧ M + m - s < b
          · have q1 : decide ((M : Int) < (M : Int) + (m : Int) - (s : Int)) = true := decide_eq_true (by omega)
            have q1p : ((M : Int) < (M : Int) + (m : Int) - (s : Int)) := by omega
            have q2 : decide ((M : Int) + (m : Int) - (s : Int) < (b : Int)) = true := decide_eq_true (by omega)
            have q2p : ((M : Int) + (m : Int) - (s : Int) < (b : Int)) := by omega
            have hz2 : d2.size = d.size := HP12.out.1.trans HP0.out.1
            have C := IH.out M (M + m - s) b d2 w8 (by omega) hz2 S8.out (by omega) (by omega) (by omega) (fun x y hx hxy hy => by rw [HP12.out.2.1 x (.inr hx), HP12.out.2.1 y (.inr (by omega))]; exact HPT.out.a2 x y hx hxy hy) (fun x y hx hxy hy => by rw [HP12.out.2.1 x (.inr (by omega)), HP12.out.2.1 y (.inr (by omega))]; exact HPT.out.b2 x y hx hxy hy)
            rw [show ((M + m - s : Nat) : Int) = (M : Int) + (m : Int) - (s : Int) by omega, hz2] at C
            have HCC := Lib.hid C
            clear C g2 hz2 S8
            go_wp2_with fail
            refine HCC.out.mono ?_
            rintro e9 w9 ⟨d3, rfl, S9, hm3⟩
            have S9 := Lib.hid S9
            have HM3 := Lib.hid hm3
            clear hm3 HCC
            go_wp2_with fail
            first
              | go_end0
              | refine bodyPost_ret (results_none rfl _ _ _) rfl ?_
            exact ⟨d3, rfl, S9.out, merged_of hb (by omega) (by omega) HP0.out HPT.out HP12.out O1.out HM3.out.1 HM3.out.2⟩
          · have O2 : Hid (SortedIn (ltOf cf) M b d2) := fun x y hx hxy hy => by
              rw [HP12.out.2.1 x (.inr hx), HP12.out.2.1 y (.inr (by omega))]
              by_cases z : M + m - s ≤ M
              · exact HPT.out.b2 x y (by omega) hxy hy
              · exact HPT.out.a2 x y hx hxy (by omega)
            by_cases z : M < M + m - s
            · have q1 : decide ((M : Int) < (M : Int) + (m : Int) - (s : Int)) = true := decide_eq_true (by omega)
              have q1p : ((M : Int) < (M : Int) + (m : Int) - (s : Int)) := by omega
              have q2 : decide ((M : Int) + (m : Int) - (s : Int) < (b : Int)) = false := decide_eq_false (by omega)
              have q2p : ¬ ((M : Int) + (m : Int) - (s : Int) < (b : Int)) := by omega
              clear g2 z
              go_wp2_with fail
              first
                | go_end0
                | refine bodyPost_ret (results_none rfl _ _ _) rfl ?_
              exact ⟨d2, rfl, S8.out, merged_of hb (by omega) (by omega) HP0.out HPT.out HP12.out O1.out (permIn_refl _ _ _) O2.out⟩
            · have q1 : decide ((M : Int) < (M : Int) + (m : Int) - (s : Int)) = false := decide_eq_false (by omega)
              have q1p : ¬ ((M : Int) < (M : Int) + (m : Int) - (s : Int)) := by omega
              clear g2 z
              go_wp2_with fail
              first
                | go_end0
                | refine bodyPost_ret (results_none rfl _ _ _) rfl ?_
              exact ⟨d2, rfl, S8.out, merged_of hb (by omega) (by omega) HP0.out HPT.out HP12.out O1.out (permIn_refl _ _ _) O2.out⟩
        · have O1 : Hid (SortedIn (ltOf cf) a M d1) := fun x y hx hxy hy => by
            by_cases z : s ≤ a
            · exact HPT.out.b1 x y (by omega) hxy hy
            · exact HPT.out.a1 x y hx hxy (by omega)
          have HP12 : Hid (PermIn a M d1 d1) := permIn_refl _ _ _
          by_cases z : a < s
          · have q1 : decide ((a : Int) < (s : Int)) = true := decide_eq_true (by omega)
            have q1n : decide (a < s) = true := decide_eq_true (by omega)
            have q1p : (a < s) := by omega
            have q2 : decide ((s : Int) < (M : Int)) = false := decide_eq_false (by omega)
            have q2n : decide (s < M) = false := decide_eq_false (by omega)
            have q2p : ¬ (s < M) := by omega
            clear g1 z
            by_cases g2 : M < M + m - s ∧ M + m - s < b
            · have q1 : decide ((M : Int) < (M : Int) + (m : Int) - (s : Int)) = true := decide_eq_true (by omega)
              have q1p : ((M : Int) < (M : Int) + (m : Int) - (s : Int)) := by omega
              have q2 : decide ((M : Int) + (m : Int) - (s : Int) < (b : Int)) = true := decide_eq_true (by omega)
              have q2p : ((M : Int) + (m : Int) - (s : Int) < (b : Int)) := by omega
              have hz2 : d1.size = d.size := HP12.out.1.trans HP0.out.1
              have C := IH.out M (M + m - s) b d1 w7 (by omega) hz2 S7.out (by omega) (by omega) (by omega) (fun x y hx hxy hy => by rw [HP12.out.2.1 x (.inr hx), HP12.out.2.1 y (.inr (by omega))]; exact HPT.out.a2 x y hx hxy hy) (fun x y hx hxy hy => by rw [HP12.out.2.1 x (.inr (by omega)), HP12.out.2.1 y (.inr (by omega))]; exact HPT.out.b2 x y hx hxy hy)
              rw [show ((M + m - s : Nat) : Int) = (M : Int) + (m : Int) - (s : Int) by omega, hz2] at C
              have HCC := Lib.hid C
              clear C g2 hz2 S7
              go_wp2_with fail
              refine HCC.out.mono ?_
              rintro e9 w9 ⟨d3, rfl, S9, hm3⟩
              have S9 := Lib.hid S9
              have HM3 := Lib.hid hm3
              clear hm3 HCC
              go_wp2_with fail
              first
                | go_end0
                | refine bodyPost_ret (results_none rfl _ _ _) rfl ?_
              exact ⟨d3, rfl, S9.out, merged_of hb (by omega) (by omega) HP0.out HPT.out HP12.out O1.out HM3.out.1 HM3.out.2⟩
            · have O2 : Hid (SortedIn (ltOf cf) M b d1) := fun x y hx hxy hy => by
                rw [HP12.out.2.1 x (.inr hx), HP12.out.2.1 y (.inr (by omega))]
                by_cases z : M + m - s ≤ M
                · exact HPT.out.b2 x y (by omega) hxy hy
                · exact HPT.out.a2 x y hx hxy (by omega)
              by_cases z : M < M + m - s
              · have q1 : decide ((M : Int) < (M : Int) + (m : Int) - (s : Int)) = true := decide_eq_true (by omega)
                have q1p : ((M : Int) < (M : Int) + (m : Int) - (s : Int)) := by omega
                have q2 : decide ((M : Int) + (m : Int) - (s : Int) < (b : Int)) = false := decide_eq_false (by omega)
                have q2p : ¬ ((M : Int) + (m : Int) - (s : Int) < (b : Int)) := by omega
                clear g2 z
                go_wp2_with fail
                first
                  | go_end0
                  | refine bodyPost_ret (results_none rfl _ _ _) rfl ?_
                exact ⟨d1, rfl, S7.out, merged_of hb (by omega) (by omega) HP0.out HPT.out HP12.out O1.out (permIn_refl _ _ _) O2.out⟩
              · have q1 : decide ((M : Int) < (M : Int) + (m : Int) - (s : Int)) = false := decide_eq_false (by omega)
                have q1p : ¬ ((M : Int) < (M : Int) + (m : Int) - (s : Int)) := by omega
                clear g2 z
                go_wp2_with fail
                first
                  | go_end0
                  | refine bodyPost_ret (results_none rfl _ _ _) rfl ?_
                exact ⟨d1, rfl, S7.out, merged_of hb (by omega) (by omega) HP0.out HPT.out HP12.out O1.out (permIn_refl _ _ _) O2.out⟩
          · have q1 : decide ((a : Int) < (s : Int)) = false := decide_eq_false (by omega)
            have q1n : decide (a < s) = false := decide_eq_false (by omega)
            have q1p : ¬ (a < s) := by omega
            clear g1 z
            by_cases g2 : M < M + m - s ∧ M + m - s < b
            · have q1 : decide ((M : Int) < (M : Int) + (m : Int) - (s : Int)) = true := decide_eq_true (by omega)
              have q1p : ((M : Int) < (M : Int) + (m : Int) - (s : Int)) := by omega
              have q2 : decide ((M : Int) + (m : Int) - (s : Int) < (b : Int)) = true := decide_eq_true (by omega)
              have q2p : ((M : Int) + (m : Int) - (s : Int) < (b : Int)) := by omega
              have hz2 : d1.size = d.size := HP12.out.1.trans HP0.out.1
              have C := IH.out M (M + m - s) b d1 w7 (by omega) hz2 S7.out (by omega) (by omega) (by omega) (fun x y hx hxy hy => by rw [HP12.out.2.1 x (.inr hx), HP12.out.2.1 y (.inr (by omega))]; exact HPT.out.a2 x y hx hxy hy) (fun x y hx hxy hy => by rw [HP12.out.2.1 x (.inr (by omega)), HP12.out.2.1 y (.inr (by omega))]; exact HPT.out.b2 x y hx hxy hy)
              rw [show ((M + m - s : Nat) : Int) = (M : Int) + (m : Int) - (s : Int) by omega, hz2] at C
              have HCC := Lib.hid C
              clear C g2 hz2 S7
              go_wp2_with fail
              refine HCC.out.mono ?_
              rintro e9 w9 ⟨d3, rfl, S9, hm3⟩
              have S9 := Lib.hid S9
              have HM3 := Lib.hid hm3
              clear hm3 HCC
              go_wp2_with fail
              first
                | go_end0
                | refine bodyPost_ret (results_none rfl _ _ _) rfl ?_
              exact ⟨d3, rfl, S9.out, merged_of hb (by omega) (by omega) HP0.out HPT.out HP12.out O1.out HM3.out.1 HM3.out.2⟩
            · have O2 : Hid (SortedIn (ltOf cf) M b d1) := fun x y hx hxy hy => by
                rw [HP12.out.2.1 x (.inr hx), HP12.out.2.1 y (.inr (by omega))]
                by_cases z : M + m - s ≤ M
                · exact HPT.out.b2 x y (by omega) hxy hy
                · exact HPT.out.a2 x y hx hxy (by omega)
              by_cases z : M < M + m - s
              · have q1 : decide ((M : Int) < (M : Int) + (m : Int) - (s : Int)) = true := decide_eq_true (by omega)
                have q1p : ((M : Int) < (M : Int) + (m : Int) - (s : Int)) := by omega
                have q2 : decide ((M : Int) + (m : Int) - (s : Int) < (b : Int)) = false := decide_eq_false (by omega)
                have q2p : ¬ ((M : Int) + (m : Int) - (s : Int) < (b : Int)) := by omega
                clear g2 z
                go_wp2_with fail
                first
                  | go_end0
                  | refine bodyPost_ret (results_none rfl _ _ _) rfl ?_
                exact ⟨d1, rfl, S7.out, merged_of hb (by omega) (by omega) HP0.out HPT.out HP12.out O1.out (permIn_refl _ _ _) O2.out⟩
              · have q1 : decide ((M : Int) < (M : Int) + (m : Int) - (s : Int)) = false := decide_eq_false (by omega)
                have q1p : ¬ ((M : Int) < (M : Int) + (m : Int) - (s : Int)) := by omega
                clear g2 z
                go_wp2_with fail
                first
                  | go_end0
                  | refine bodyPost_ret (results_none rfl _ _ _) rfl ?_
                exact ⟨d1, rfl, S7.out, merged_of hb (by omega) (by omega) HP0.out HPT.out HP12.out O1.out (permIn_refl _ _ _) O2.out⟩
      · have hr1 : Rotated s m (M + m - s) d d := rot_none (by omega)
        have HP0 : Hid (PermIn a b d d) := permIn_refl _ _ _
        have HPT := Lib.hid (HPF.out d hr1)
        clear hr1 HPF
        by_cases z : s < m
        · have q3 : decide ((s : Int) < (m : Int)) = true := decide_eq_true (by omega)
          have q3n : decide (s < m) = true := decide_eq_true (by omega)
          have q3p : (s < m) := by omega
          have q4 : decide ((m : Int) < (M : Int) + (m : Int) - (s : Int)) = false := decide_eq_false (by omega)
          have q4p : ¬ ((m : Int) < (M : Int) + (m : Int) - (s : Int)) := by omega
          clear g0 z
          by_cases g1 : a < s ∧ s < M
          · have q1 : decide ((a : Int) < (s : Int)) = true := decide_eq_true (by omega)
            have q1n : decide (a < s) = true := decide_eq_true (by omega)
            have q1p : (a < s) := by omega
            have q2 : decide ((s : Int) < (M : Int)) = true := decide_eq_true (by omega)
            have q2n : decide (s < M) = true := decide_eq_true (by omega)
            have q2p : (s < M) := by omega
            have hz1 : d.size = d.size := HP0.out.1
            have C := IH.out a s M d wo (by omega) hz1 S1.out (by omega) (by omega) (by omega) HPT.out.a1 HPT.out.b1
            rw [hz1] at C
            have HCC := Lib.hid C
            clear C g1 hz1 S1
            go_wp2_with fail
            refine HCC.out.mono ?_
            rintro e8 w8 ⟨d2, rfl, S8, hm2⟩
            have S8 := Lib.hid S8
            have HP12 := Lib.hid hm2.1
            have O1 := Lib.hid hm2.2
            clear hm2 HCC q1 q2
            by_cases g2 : M < M + m - s ∧ M + m - s < b
            · have q1 : decide ((M : Int) < (M : Int) + (m : Int) - (s : Int)) = true := decide_eq_true (by omega)
              have q1p : ((M : Int) < (M : Int) + (m : Int) - (s : Int)) := by omega
              have q2 : decide ((M : Int) + (m : Int) - (s : Int) < (b : Int)) = true := decide_eq_true (by omega)
              have q2p : ((M : Int) + (m : Int) - (s : Int) < (b : Int)) := by omega
              have hz2 : d2.size = d.size := HP12.out.1.trans HP0.out.1
              have C := IH.out M (M + m - s) b d2 w8 (by omega) hz2 S8.out (by omega) (by omega) (by omega) (fun x y hx hxy hy => by rw [HP12.out.2.1 x (.inr hx), HP12.out.2.1 y (.inr (by omega))]; exact HPT.out.a2 x y hx hxy hy) (fun x y hx hxy hy => by rw [HP12.out.2.1 x (.inr (by omega)), HP12.out.2.1 y (.inr (by omega))]; exact HPT.out.b2 x y hx hxy hy)
              rw [show ((M + m - s : Nat) : Int) = (M : Int) + (m : Int) - (s : Int) by omega, hz2] at C
              have HCC := Lib.hid C
              clear C g2 hz2 S8
              go_wp2_with fail
              refine HCC.out.mono ?_
              rintro e9 w9 ⟨d3, rfl, S9, hm3⟩
              have S9 := Lib.hid S9
              have HM3 := Lib.hid hm3
              clear hm3 HCC
              go_wp2_with fail
              first
                | go_end0
                | refine bodyPost_ret (results_none rfl _ _ _) rfl ?_
              exact ⟨d3, rfl, S9.out, merged_of hb (by omega) (by omega) HP0.out HPT.out HP12.out O1.out HM3.out.1 HM3.out.2⟩
            · have O2 : Hid (SortedIn (ltOf cf) M b d2) := fun x y hx hxy hy => by
                rw [HP12.out.2.1 x (.inr hx), HP12.out.2.1 y (.inr (by omega))]
                by_cases z : M + m - s ≤ M
                · exact HPT.out.b2 x y (by omega) hxy hy
                · exact HPT.out.a2 x y hx hxy (by omega)
              by_cases z : M < M + m - s
              · have q1 : decide ((M : Int) < (M : Int) + (m : Int) - (s : Int)) = true := decide_eq_true (by omega)
                have q1p : ((M : Int) < (M : Int) + (m : Int) - (s : Int)) := by omega
                have q2 : decide ((M : Int) + (m : Int) - (s : Int) < (b : Int)) = false := decide_eq_false (by omega)
                have q2p : ¬ ((M : Int) + (m : Int) - (s : Int) < (b : Int)) := by omega
                clear g2 z
                go_wp2_with fail
                first
                  | go_end0
                  | refine bodyPost_ret (results_none rfl _ _ _) rfl ?_
                exact ⟨d2, rfl, S8.out, merged_of hb (by omega) (by omega) HP0.out HPT.out HP12.out O1.out (permIn_refl _ _ _) O2.out⟩
              · have q1 : decide ((M : Int) < (M : Int) + (m : Int) - (s : Int)) = false := decide_eq_false (by omega)
                have q1p : ¬ ((M : Int) < (M : Int) + (m : Int) - (s : Int)) := by omega
                clear g2 z
                go_wp2_with fail
                first
                  | go_end0
                  | refine bodyPost_ret (results_none rfl _ _ _) rfl ?_
                exact ⟨d2, rfl, S8.out, merged_of hb (by omega) (by omega) HP0.out HPT.out HP12.out O1.out (permIn_refl _ _ _) O2.out⟩
          · have O1 : Hid (SortedIn (ltOf cf) a M d) := fun x y hx hxy hy => by
              by_cases z : s ≤ a
              · exact HPT.out.b1 x y (by omega) hxy hy
              · exact HPT.out.a1 x y hx hxy (by omega)
            have HP12 : Hid (PermIn a M d d) := permIn_refl _ _ _
            by_cases z : a < s
            · have q1 : decide ((a : Int) < (s : Int)) = true := decide_eq_true (by omega)
              have q1n : decide (a < s) = true := decide_eq_true (by omega)
              have q1p : (a < s) := by omega
              have q2 : decide ((s : Int) < (M : Int)) = false := decide_eq_false (by omega)
              have q2n : decide (s < M) = false := decide_eq_false (by omega)
              have q2p : ¬ (s < M) := by omega
              clear g1 z
              by_cases g2 : M < M + m - s ∧ M + m - s < b
              · have q1 : decide ((M : Int) < (M : Int) + (m : Int) - (s : Int)) = true := decide_eq_true (by omega)
                have q1p : ((M : Int) < (M : Int) + (m : Int) - (s : Int)) := by omega
                have q2 : decide ((M : Int) + (m : Int) - (s : Int) < (b : Int)) = true := decide_eq_true (by omega)
                have q2p : ((M : Int) + (m : Int) - (s : Int) < (b : Int)) := by omega
                have hz2 : d.size = d.size := HP12.out.1.trans HP0.out.1
                have C := IH.out M (M + m - s) b d wo (by omega) hz2 S1.out (by omega) (by omega) (by omega) (fun x y hx hxy hy => by rw [HP12.out.2.1 x (.inr hx), HP12.out.2.1 y (.inr (by omega))]; exact HPT.out.a2 x y hx hxy hy) (fun x y hx hxy hy => by rw [HP12.out.2.1 x (.inr (by omega)), HP12.out.2.1 y (.inr (by omega))]; exact HPT.out.b2 x y hx hxy hy)
                rw [show ((M + m - s : Nat) : Int) = (M : Int) + (m : Int) - (s : Int) by omega, hz2] at C
                have HCC := Lib.hid C
                clear C g2 hz2 S1
                go_wp2_with fail
                refine HCC.out.mono ?_
                rintro e9 w9 ⟨d3, rfl, S9, hm3⟩
                have S9 := Lib.hid S9
                have HM3 := Lib.hid hm3
                clear hm3 HCC
                go_wp2_with fail
                first
                  | go_end0
                  | refine bodyPost_ret (results_none rfl _ _ _) rfl ?_
                exact ⟨d3, rfl, S9.out, merged_of hb (by omega) (by omega) HP0.out HPT.out HP12.out O1.out HM3.out.1 HM3.out.2⟩
              · have O2 : Hid (SortedIn (ltOf cf) M b d) := fun x y hx hxy hy => by
                  rw [HP12.out.2.1 x (.inr hx), HP12.out.2.1 y (.inr (by omega))]
                  by_cases z : M + m - s ≤ M
                  · exact HPT.out.b2 x y (by omega) hxy hy
                  · exact HPT.out.a2 x y hx hxy (by omega)
                by_cases z : M < M + m - s
                · have q1 : decide ((M : Int) < (M : Int) + (m : Int) - (s : Int)) = true := decide_eq_true (by omega)
                  have q1p : ((M : Int) < (M : Int) + (m : Int) - (s : Int)) := by omega
                  have q2 : decide ((M : Int) + (m : Int) - (s : Int) < (b : Int)) = false := decide_eq_false (by omega)
                  have q2p : ¬ ((M : Int) + (m : Int) - (s : Int) < (b : Int)) := by omega
                  clear g2 z
                  go_wp2_with fail
                  first
                    | go_end0
                    | refine bodyPost_ret (results_none rfl _ _ _) rfl ?_
                  exact ⟨d, rfl, S1.out, merged_of hb (by omega) (by omega) HP0.out HPT.out HP12.out O1.out (permIn_refl _ _ _) O2.out⟩
                · have q1 : decide ((M : Int) < (M : Int) + (m : Int) - (s : Int)) = false := decide_eq_false (by omega)
                  have q1p : ¬ ((M : Int) < (M : Int) + (m : Int) - (s : Int)) := by omega
                  clear g2 z
                  go_wp2_with fail
                  first
                    | go_end0
                    | refine bodyPost_ret (results_none rfl _ _ _) rfl ?_
                  exact ⟨d, rfl, S1.out, merged_of hb (by omega) (by omega) HP0.out HPT.out HP12.out O1.out (permIn_refl _ _ _) O2.out⟩
            · have q1 : decide ((a : Int) < (s : Int)) = false := decide_eq_false (by omega)
              have q1n : decide (a < s) = false := decide_eq_false (by omega)
              have q1p : ¬ (a < s) := by omega
              clear g1 z
              by_cases g2 : M < M + m - s ∧ M + m - s < b
              · have q1 : decide ((M : Int) < (M : Int) + (m : Int) - (s : Int)) = true := decide_eq_true (by omega)
                have q1p : ((M : Int) < (M : Int) + (m : Int) - (s : Int)) := by omega
                have q2 : decide ((M : Int) + (m : Int) - (s : Int) < (b : Int)) = true := decide_eq_true (by omega)
                have q2p : ((M : Int) + (m : Int) - (s : Int) < (b : Int)) := by omega
                have hz2 : d.size = d.size := HP12.out.1.trans HP0.out.1
                have C := IH.out M (M + m - s) b d wo (by omega) hz2 S1.out (by omega) (by omega) (by omega) (fun x y hx hxy hy => by rw [HP12.out.2.1 x (.inr hx), HP12.out.2.1 y (.inr (by omega))]; exact HPT.out.a2 x y hx hxy hy) (fun x y hx hxy hy => by rw [HP12.out.2.1 x (.inr (by omega)), HP12.out.2.1 y (.inr (by omega))]; exact HPT.out.b2 x y hx hxy hy)
                rw [show ((M + m - s : Nat) : Int) = (M : Int) + (m : Int) - (s : Int) by omega, hz2] at C
                have HCC := Lib.hid C
                clear C g2 hz2 S1
                go_wp2_with fail
                refine HCC.out.mono ?_
                rintro e9 w9 ⟨d3, rfl, S9, hm3⟩
                have S9 := Lib.hid S9
                have HM3 := Lib.hid hm3
                clear hm3 HCC
                go_wp2_with fail
                first
                  | go_end0
                  | refine bodyPost_ret (results_none rfl _ _ _) rfl ?_
                exact ⟨d3, rfl, S9.out, merged_of hb (by omega) (by omega) HP0.out HPT.out HP12.out O1.out HM3.out.1 HM3.out.2⟩
              · have O2 : Hid (SortedIn (ltOf cf) M b d) := fun x y hx hxy hy => by
                  rw [HP12.out.2.1 x (.inr hx), HP12.out.2.1 y (.inr (by omega))]
                  by_cases z : M + m - s ≤ M
                  · exact HPT.out.b2 x y (by omega) hxy hy
                  · exact HPT.out.a2 x y hx hxy (by omega)
                by_cases z : M < M + m - s
                · have q1 : decide ((M : Int) < (M : Int) + (m : Int) - (s : Int)) = true := decide_eq_true (by omega)
                  have q1p : ((M : Int) < (M : Int) + (m : Int) - (s : Int)) := by omega
                  have q2 : decide ((M : Int) + (m : Int) - (s : Int) < (b : Int)) = false := decide_eq_false (by omega)
                  have q2p : ¬ ((M : Int) + (m : Int) - (s : Int) < (b : Int)) := by omega
                  clear g2 z
                  go_wp2_with fail
                  first
                    | go_end0
                    | refine bodyPost_ret (results_none rfl _ _ _) rfl ?_
                  exact ⟨d, rfl, S1.out, merged_of hb (by omega) (by omega) HP0.out HPT.out HP12.out O1.out (permIn_refl _ _ _) O2.out⟩
                · have q1 : decide ((M : Int) < (M : Int) + (m : Int) - (s : Int)) = false := decide_eq_false (by omega)
                  have q1p : ¬ ((M : Int) < (M : Int) + (m : Int) - (s : Int)) := by omega
                  clear g2 z
                  go_wp2_with fail
                  first
                    | go_end0
                    | refine bodyPost_ret (results_none rfl _ _ _) rfl ?_
                  exact ⟨d, rfl, S1.out, merged_of hb (by omega) (by omega) HP0.out HPT.out HP12.out O1.out (permIn_refl _ _ _) O2.out⟩
        · have q3 : decide ((s : Int) < (m : Int)) = false := decide_eq_false (by omega)
          have q3n : decide (s < m) = false := decide_eq_false (by omega)
          have q3p : ¬ (s < m) := by omega
          clear g0 z
          by_cases g1 : a < s ∧ s < M
          · have q1 : decide ((a : Int) < (s : Int)) = true := decide_eq_true (by omega)
            have q1n : decide (a < s) = true := decide_eq_true (by omega)
            have q1p : (a < s) := by omega
            have q2 : decide ((s : Int) < (M : Int)) = true := decide_eq_true (by omega)
            have q2n : decide (s < M) = true := decide_eq_true (by omega)
            have q2p : (s < M) := by omega
            have hz1 : d.size = d.size := HP0.out.1
            have C := IH.out a s M d wo (by omega) hz1 S1.out (by omega) (by omega) (by omega) HPT.out.a1 HPT.out.b1
            rw [hz1] at C
            have HCC := Lib.hid C
            clear C g1 hz1 S1
            go_wp2_with fail
            refine HCC.out.mono ?_
            rintro e8 w8 ⟨d2, rfl, S8, hm2⟩
            have S8 := Lib.hid S8
            have HP12 := Lib.hid hm2.1
            have O1 := Lib.hid hm2.2
            clear hm2 HCC q1 q2
            by_cases g2 : M < M + m - s ∧ M + m - s < b
            · have q1 : decide ((M : Int) < (M : Int) + (m : Int) - (s : Int)) = true := decide_eq_true (by omega)
              have q1p : ((M : Int) < (M : Int) + (m : Int) - (s : Int)) := by omega
              have q2 : decide ((M : Int) + (m : Int) - (s : Int) < (b : Int)) = true := decide_eq_true (by omega)
              have q2p : ((M : Int) + (m : Int) - (s : Int) < (b : Int)) := by omega
              have hz2 : d2.size = d.size := HP12.out.1.trans HP0.out.1
              have C := IH.out M (M + m - s) b d2 w8 (by omega) hz2 S8.out (by omega) (by omega) (by omega) (fun x y hx hxy hy => by rw [HP12.out.2.1 x (.inr hx), HP12.out.2.1 y (.inr (by omega))]; exact HPT.out.a2 x y hx hxy hy) (fun x y hx hxy hy => by rw [HP12.out.2.1 x (.inr (by omega)), HP12.out.2.1 y (.inr (by omega))]; exact HPT.out.b2 x y hx hxy hy)
              rw [show ((M + m - s : Nat) : Int) = (M : Int) + (m : Int) - (s : Int) by omega, hz2] at C
              have HCC := Lib.hid C
              clear C g2 hz2 S8
              go_wp2_with fail
              refine HCC.out.mono ?_
              rintro e9 w9 ⟨d3, rfl, S9, hm3⟩
              have S9 := Lib.hid S9
              have HM3 := Lib.hid hm3
              clear hm3 HCC
              go_wp2_with fail
              first
                | go_end0
                | refine bodyPost_ret (results_none rfl _ _ _) rfl ?_
              exact ⟨d3, rfl, S9.out, merged_of hb (by omega) (by omega) HP0.out HPT.out HP12.out O1.out HM3.out.1 HM3.out.2⟩
            · have O2 : Hid (SortedIn (ltOf cf) M b d2) := fun x y hx hxy hy => by
                rw [HP12.out.2.1 x (.inr hx), HP12.out.2.1 y (.inr (by omega))]
                by_cases z : M + m - s ≤ M
                · exact HPT.out.b2 x y (by omega) hxy hy
                · exact HPT.out.a2 x y hx hxy (by omega)
              by_cases z : M < M + m - s
              · have q1 : decide ((M : Int) < (M : Int) + (m : Int) - (s : Int)) = true := decide_eq_true (by omega)
                have q1p : ((M : Int) < (M : Int) + (m : Int) - (s : Int)) := by omega
                have q2 : decide ((M : Int) + (m : Int) - (s : Int) < (b : Int)) = false := decide_eq_false (by omega)
                have q2p : ¬ ((M : Int) + (m : Int) - (s : Int) < (b : Int)) := by omega
                clear g2 z
                go_wp2_with fail
                first
                  | go_end0
                  | refine bodyPost_ret (results_none rfl _ _ _) rfl ?_
                exact ⟨d2, rfl, S8.out, merged_of hb (by omega) (by omega) HP0.out HPT.out HP12.out O1.out (permIn_refl _ _ _) O2.out⟩
              · have q1 : decide ((M : Int) < (M : Int) + (m : Int) - (s : Int)) = false := decide_eq_false (by omega)
                have q1p : ¬ ((M : Int) < (M : Int) + (m : Int) - (s : Int)) := by omega
                clear g2 z
                go_wp2_with fail
                first
                  | go_end0
                  | refine bodyPost_ret (results_none rfl _ _ _) rfl ?_
                exact ⟨d2, rfl, S8.out, merged_of hb (by omega) (by omega) HP0.out HPT.out HP12.out O1.out (permIn_refl _ _ _) O2.out⟩
          · have O1 : Hid (SortedIn (ltOf cf) a M d) := fun x y hx hxy hy => by
              by_cases z : s ≤ a
              · exact HPT.out.b1 x y (by omega) hxy hy
              · exact HPT.out.a1 x y hx hxy (by omega)
            have HP12 : Hid (PermIn a M d d) := permIn_refl _ _ _
            by_cases z : a < s
            · have q1 : decide ((a : Int) < (s : Int)) = true := decide_eq_true (by omega)
              have q1n : decide (a < s) = true := decide_eq_true (by omega)
              have q1p : (a < s) := by omega
              have q2 : decide ((s : Int) < (M : Int)) = false := decide_eq_false (by omega)
              have q2n : decide (s < M) = false := decide_eq_false (by omega)
              have q2p : ¬ (s < M) := by omega
              clear g1 z
              by_cases g2 : M < M + m - s ∧ M + m - s < b
              · have q1 : decide ((M : Int) < (M : Int) + (m : Int) - (s : Int)) = true := decide_eq_true (by omega)
                have q1p : ((M : Int) < (M : Int) + (m : Int) - (s : Int)) := by omega
                have q2 : decide ((M : Int) + (m : Int) - (s : Int) < (b : Int)) = true := decide_eq_true (by omega)
                have q2p : ((M : Int) + (m : Int) - (s : Int) < (b : Int)) := by omega
                have hz2 : d.size = d.size := HP12.out.1.trans HP0.out.1
                have C := IH.out M (M + m - s) b d wo (by omega) hz2 S1.out (by omega) (by omega) (by omega) (fun x y hx hxy hy => by rw [HP12.out.2.1 x (.inr hx), HP12.out.2.1 y (.inr (by omega))]; exact HPT.out.a2 x y hx hxy hy) (fun x y hx hxy hy => by rw [HP12.out.2.1 x (.inr (by omega)), HP12.out.2.1 y (.inr (by omega))]; exact HPT.out.b2 x y hx hxy hy)
                rw [show ((M + m - s : Nat) : Int) = (M : Int) + (m : Int) - (s : Int) by omega, hz2] at C
                have HCC := Lib.hid C
                clear C g2 hz2 S1
                go_wp2_with fail
                refine HCC.out.mono ?_
                rintro e9 w9 ⟨d3, rfl, S9, hm3⟩
                have S9 := Lib.hid S9
                have HM3 := Lib.hid hm3
                clear hm3 HCC
                go_wp2_with fail
                first
                  | go_end0
                  | refine bodyPost_ret (results_none rfl _ _ _) rfl ?_
                exact ⟨d3, rfl, S9.out, merged_of hb (by omega) (by omega) HP0.out HPT.out HP12.out O1.out HM3.out.1 HM3.out.2⟩
              · have O2 : Hid (SortedIn (ltOf cf) M b d) := fun x y hx hxy hy => by
                  rw [HP12.out.2.1 x (.inr hx), HP12.out.2.1 y (.inr (by omega))]
                  by_cases z : M + m - s ≤ M
                  · exact HPT.out.b2 x y (by omega) hxy hy
                  · exact HPT.out.a2 x y hx hxy (by omega)
                by_cases z : M < M + m - s
                · have q1 : decide ((M : Int) < (M : Int) + (m : Int) - (s : Int)) = true := decide_eq_true (by omega)
                  have q1p : ((M : Int) < (M : Int) + (m : Int) - (s : Int)) := by omega
                  have q2 : decide ((M : Int) + (m : Int) - (s : Int) < (b : Int)) = false := decide_eq_false (by omega)
                  have q2p : ¬ ((M : Int) + (m : Int) - (s : Int) < (b : Int)) := by omega
                  clear g2 z
                  go_wp2_with fail
                  first
                    | go_end0
                    | refine bodyPost_ret (results_none rfl _ _ _) rfl ?_
                  exact ⟨d, rfl, S1.out, merged_of hb (by omega) (by omega) HP0.out HPT.out HP12.out O1.out (permIn_refl _ _ _) O2.out⟩
                · have q1 : decide ((M : Int) < (M : Int) + (m : Int) - (s : Int)) = false := decide_eq_false (by omega)
                  have q1p : ¬ ((M : Int) < (M : Int) + (m : Int) - (s : Int)) := by omega
                  clear g2 z
                  go_wp2_with fail
                  first
                    | go_end0
                    | refine bodyPost_ret (results_none rfl _ _ _) rfl ?_
                  exact ⟨d, rfl, S1.out, merged_of hb (by omega) (by omega) HP0.out HPT.out HP12.out O1.out (permIn_refl _ _ _) O2.out⟩
            · have q1 : decide ((a : Int) < (s : Int)) = false := decide_eq_false (by omega)
              have q1n : decide (a < s) = false := decide_eq_false (by omega)
              have q1p : ¬ (a < s) := by omega
              clear g1 z
              by_cases g2 : M < M + m - s ∧ M + m - s < b
              · have q1 : decide ((M : Int) < (M : Int) + (m : Int) - (s : Int)) = true := decide_eq_true (by omega)
                have q1p : ((M : Int) < (M : Int) + (m : Int) - (s : Int)) := by omega
                have q2 : decide ((M : Int) + (m : Int) - (s : Int) < (b : Int)) = true := decide_eq_true (by omega)
                have q2p : ((M : Int) + (m : Int) - (s : Int) < (b : Int)) := by omega
                have hz2 : d.size = d.size := HP12.out.1.trans HP0.out.1
                have C := IH.out M (M + m - s) b d wo (by omega) hz2 S1.out (by omega) (by omega) (by omega) (fun x y hx hxy hy => by rw [HP12.out.2.1 x (.inr hx), HP12.out.2.1 y (.inr (by omega))]; exact HPT.out.a2 x y hx hxy hy) (fun x y hx hxy hy => by rw [HP12.out.2.1 x (.inr (by omega)), HP12.out.2.1 y (.inr (by omega))]; exact HPT.out.b2 x y hx hxy hy)
                rw [show ((M + m - s : Nat) : Int) = (M : Int) + (m : Int) - (s : Int) by omega, hz2] at C
                have HCC := Lib.hid C
                clear C g2 hz2 S1
                go_wp2_with fail
                refine HCC.out.mono ?_
                rintro e9 w9 ⟨d3, rfl, S9, hm3⟩
                have S9 := Lib.hid S9
                have HM3 := Lib.hid hm3
                clear hm3 HCC
                go_wp2_with fail
                first
                  | go_end0
                  | refine bodyPost_ret (results_none rfl _ _ _) rfl ?_
                exact ⟨d3, rfl, S9.out, merged_of hb (by omega) (by omega) HP0.out HPT.out HP12.out O1.out HM3.out.1 HM3.out.2⟩
              · have O2 : Hid (SortedIn (ltOf cf) M b d) := fun x y hx hxy hy => by
                  rw [HP12.out.2.1 x (.inr hx), HP12.out.2.1 y (.inr (by omega))]
                  by_cases z : M + m - s ≤ M
                  · exact HPT.out.b2 x y (by omega) hxy hy
                  · exact HPT.out.a2 x y hx hxy (by omega)
                by_cases z : M < M + m - s
                · have q1 : decide ((M : Int) < (M : Int) + (m : Int) - (s : Int)) = true := decide_eq_true (by omega)
                  have q1p : ((M : Int) < (M : Int) + (m : Int) - (s : Int)) := by omega
                  have q2 : decide ((M : Int) + (m : Int) - (s : Int) < (b : Int)) = false := decide_eq_false (by omega)
                  have q2p : ¬ ((M : Int) + (m : Int) - (s : Int) < (b : Int)) := by omega
                  clear g2 z
                  go_wp2_with fail
                  first
                    | go_end0
                    | refine bodyPost_ret (results_none rfl _ _ _) rfl ?_
                  exact ⟨d, rfl, S1.out, merged_of hb (by omega) (by omega) HP0.out HPT.out HP12.out O1.out (permIn_refl _ _ _) O2.out⟩
                · have q1 : decide ((M : Int) < (M : Int) + (m : Int) - (s : Int)) = false := decide_eq_false (by omega)
                  have q1p : ¬ ((M : Int) < (M : Int) + (m : Int) - (s : Int)) := by omega
                  clear g2 z
                  go_wp2_with fail
                  first
                    | go_end0
                    | refine bodyPost_ret (results_none rfl _ _ _) rfl ?_
                  exact ⟨d, rfl, S1.out, merged_of hb (by omega) (by omega) HP0.out HPT.out HP12.out O1.out (permIn_refl _ _ _) O2.out⟩
theorem sym_any (L : SL P k) (cf : α → α → Int) (hS : SWO (ltOf cf)) (g : Nat) (cb : Array Value) (eg : ∀ args w, (callFunc g args).run P w = .ok (.enter g args) w) (blk off cap : Nat) (d0 : Array α) (w0 : World) (R : RowK enc k w0 blk off d0) (hC : CmpLays P g cb enc k cf blk off d0.size w0) (hsz : d0.size ≤ 100000) :
    ∀ (N a m b : Nat) (d : Array α) (w : World), b - a < N → d.size = d0.size → SWK enc k w0 blk off d w → a < m → m < b → b ≤ d0.size → SortedIn (ltOf cf) a m d → SortedIn (ltOf cf) m b d → Calls P 68 #[.slice (some ⟨blk, off, none⟩) d.size cap, .int .i64 a, .int .i64 m, .int .i64 b, .func (.func g) #[] cb] w (SymDone enc k w0 blk off cf a b d) := by
  intro N
  induction N with
  | zero => intro a m b d w h; omega
  | succ N ih =>
    intro a m b d w hN hd S ham hmb hb h1 h2
    by_cases hm : m = a + 1
    · exact sym_first L cf hS g cb eg blk off cap a m b d0 d w0 w R hd.symm (by rw [hd]; exact hC) S ham hmb (by omega) (by omega) h1 h2 hm
    · by_cases hb1 : b = m + 1
      · exact sym_last L cf hS g cb eg blk off cap a m b d0 d w0 w R hd.symm (by rw [hd]; exact hC) S ham hmb (by omega) (by omega) h1 h2 hm hb1
      · have IH : ∀ (a' m' b' : Nat) (d' : Array α) (w' : World), b' - a' < b - a → d'.size = d.size → SWK enc k w0 blk off d' w' → a' < m' → m' < b' → b' ≤ d.size → SortedIn (ltOf cf) a' m' d' → SortedIn (ltOf cf) m' b' d' → Calls P 68 #[.slice (some ⟨blk, off, none⟩) d'.size cap, .int .i64 a', .int .i64 m', .int .i64 b', .func (.func g) #[] cb] w' (SymDone enc k w0 blk off cf a' b' d') := fun a' m' b' d' w' hlt hz S' k1 k2 k3 k4 k5 => ih a' m' b' d' w' (by omega) (hz.trans hd) S' k1 k2 (by omega) k4 k5
        by_cases hmid : (a + b) / 2 < m
        · exact sym_right L cf hS g cb eg blk off cap a m b d0 d w0 w R hd.symm (by rw [hd]; exact hC) S ham hmb (by omega) (by omega) h1 h2 hm hb1 hmid IH
        · exact sym_left L cf hS g cb eg blk off cap a m b d0 d w0 w R hd.symm (by rw [hd]; exact hC) S ham hmb (by omega) (by omega) h1 h2 hm hb1 (by omega) IH
end
end Go.Proofs.Ytmcilmmnpolieaa
