/- What is owed, as the sort has it: its cells, its order, and what the program's comparing tells. The sort's rotating. The theorem's premises are its conditions. Each theorem's premises are its conditions. -/
import Derived.Test.YtmcilmmnpolieaaK02
import Derived.Test.YtmcilmmnpolieaaK06
import Derived.Test.YtmcilmmnpolieaaK18
import Derived.Shelf.SlSortCmp.ReverseRangeK
/- What is owed, as the sort has it: its cells, its order, and what the program's comparing tells. Each theorem's premises are its conditions. -/
namespace Go.Proofs.Ytmcilmmnpolieaa
open Go.RowKit Go.Shelf Go.Sort
attribute [local go_sem] Oper.semAt_some

abbrev VO := { o : Ow // OwOk o }
instance : Inhabited VO := ⟨⟨⟨0, 0, (0, 0, 0)⟩, by unfold OwOk; simp⟩⟩
def enc5 (x : VO) : List Value := [.int .i64 x.1.id, .int .i64 x.1.till, .int .i64 x.1.p.1, .int .i64 x.1.p.2.1, .int .i64 x.1.p.2.2]
def cmp5 (x y : VO) : Int := if x.1.till - y.1.till = 0 then x.1.id - y.1.id else x.1.till - y.1.till
theorem lt5 (x y : VO) : ltOf cmp5 x y = decide (x.1.till < y.1.till ∨ x.1.till = y.1.till ∧ x.1.id < y.1.id) := by
  unfold ltOf cmp5
  by_cases h : x.1.till - y.1.till = 0
  · rw [if_pos h]; exact decide_eq_decide.2 (by omega)
  · rw [if_neg h]; exact decide_eq_decide.2 (by omega)
theorem swo5 : SWO (ltOf cmp5) where
  irrefl x := by rw [lt5]; simp
  trans x y z h1 h2 := by rw [lt5] at *; simp at *; omega
  ntrans x y z h1 h2 := by rw [lt5] at *; simp at *; omega
/-- the first one of two that is not 0. -/
theorem or_two (a b : Int) (B : Nat) (w : World) (h0 : w.cell? ⟨B, 0, none⟩ = some (.int .i64 a)) (h1 : w.cell? ⟨B, 1, none⟩ = some (.int .i64 b)) :
    Calls Try.prog 34 #[.slice (some ⟨B, 0, none⟩) 2 2] w fun e w' => e = .returned (.int .i64 (if a = 0 then b else a)) ∧ w' = w := by
  by_cases h : a = 0
  · rw [if_pos h]
    subst h
    by_cases hb : b = 0
    · subst hb
      go_enter Try.func34, Try.ntmps34
      go_wp2_with fail
      refine wp_loop_rounds 3 ?_
      rw [rounds_succ]
      go_wp2_with fail
      rw [rounds_succ]
      go_wp2_with fail
      rw [rounds_succ]
      go_wp2_with fail
      go_ret
      exact ⟨rfl, rfl⟩
    · have e1 : (b != 0) = true := by rw [bne_iff_ne]; exact hb
      clear hb
      go_enter Try.func34, Try.ntmps34
      go_wp2_with fail
      refine wp_loop_rounds 3 ?_
      rw [rounds_succ]
      go_wp2_with fail
      rw [rounds_succ]
      go_wp2_with fail
      go_ret
      exact ⟨rfl, rfl⟩
  · rw [if_neg h]
    have e1 : (a != 0) = true := by rw [bne_iff_ne]; exact h
    clear h
    go_enter Try.func34, Try.ntmps34
    go_wp2_with fail
    refine wp_loop_rounds 3 ?_
    rw [rounds_succ]
    go_wp2_with fail
    go_ret
    exact ⟨rfl, rfl⟩
set_option maxHeartbeats 1000000 in
theorem cmp_one (x y : VO) (W : World) : Calls Try.prog 33 #[.agg (enc5 x).toArray, .agg (enc5 y).toArray] W fun e w' => e = .returned (.int .i64 (cmp5 x y)) ∧ ∃ q os', w' = grow (W.drewN q) os' := by
  obtain ⟨x, hx⟩ := x
  obtain ⟨y, hy⟩ := y
  obtain ⟨x1, x2, x3, x4⟩ := hx
  obtain ⟨y1, y2, y3, y4⟩ := hy
  unfold cmp5 enc5
  have o1 := or_two (x.till - y.till) (x.id - y.id)
  obtain ⟨Z, hZ⟩ : ∃ Z, (if x.till - y.till = 0 then x.id - y.id else x.till - y.till) = Z := ⟨_, rfl⟩
  dsimp only
  rw [hZ] at o1 ⊢
  have OR := Lib.hid o1
  clear hZ o1
  go_enter Try.func33, Try.ntmps33
  go_wp2_with fail
  refine (OR.out _ _ (by go_simp) (by go_simp)).mono ?_
  rintro e w1 ⟨rfl, rfl⟩
  go_wp2_with fail
  go_ret
  exact ⟨rfl, 0, _, by rw [alloc_eq_grow, alloc_eq_grow, alloc_eq_grow, grow_grow, grow_grow]; rfl⟩
theorem len5 (x : VO) : (enc5 x).length = 5 := rfl
theorem one5 (x : VO) : ∀ v ∈ enc5 x, v.oneCell' = true := by
  intro v hv
  simp [enc5] at hv
  rcases hv with rfl | rfl | rfl | rfl | rfl <;> rfl
abbrev SW (w0 : World) (blk off : Nat) (d : Array VO) (w : World) : Prop := SWK enc5 5 w0 blk off d w
abbrev RW5 (w0 : World) (blk off : Nat) (d0 : Array VO) : Prop := RowK enc5 5 w0 blk off d0
theorem cmp_lays (blk off size : Nat) (w : World) : CmpLays Try.prog 33 #[] enc5 5 cmp5 blk off size w := fun _ _ _ _ x y => cmp_one x y _
/-! ### what a walk of the sort's asks of the program: the element has k cells -/
structure SL (P : Program) (k : Nat) : Prop where
  mixed : P.follows .mixedOrders = true
  t0 : P.underlying 0 = some (TypeDesc.tuple #[])
  a0 : ∀ w, (isAgg 0).run P w = .ok false w
  z0 : ∀ w, (Go.sizeOf 0).run P w = .ok 1 w
  v0 : ∀ w, (zeroValue 0).run P w = .ok (Value.tuple #[]) w
  t3 : P.underlying 3 = some (TypeDesc.int IntKind.i64)
  a3 : ∀ w, (isAgg 3).run P w = .ok false w
  z3 : ∀ w, (Go.sizeOf 3).run P w = .ok 1 w
  v3 : ∀ w, (zeroValue 3).run P w = .ok (Value.int IntKind.i64 0) w
  t4 : P.underlying 4 = some (TypeDesc.bool)
  a4 : ∀ w, (isAgg 4).run P w = .ok false w
  z4 : ∀ w, (Go.sizeOf 4).run P w = .ok 1 w
  v4 : ∀ w, (zeroValue 4).run P w = .ok (Value.bool false) w
  t44 : P.underlying 44 = some (TypeDesc.slice 56)
  a44 : ∀ w, (isAgg 44).run P w = .ok false w
  z44 : ∀ w, (Go.sizeOf 44).run P w = .ok 1 w
  v44 : ∀ w, (zeroValue 44).run P w = .ok (Value.slice none 0 0) w
  t85 : P.underlying 85 = some (TypeDesc.func #[56, 56] #[3] false)
  a85 : ∀ w, (isAgg 85).run P w = .ok false w
  z85 : ∀ w, (Go.sizeOf 85).run P w = .ok 1 w
  v85 : ∀ w, (zeroValue 85).run P w = .ok (Value.nilFunc) w
  t128 : P.underlying 128 = some (TypeDesc.int IntKind.u64)
  a128 : ∀ w, (isAgg 128).run P w = .ok false w
  z128 : ∀ w, (Go.sizeOf 128).run P w = .ok 1 w
  v128 : ∀ w, (zeroValue 128).run P w = .ok (Value.int IntKind.u64 0) w
  aE : ∀ w, (isAgg 56).run P w = .ok true w
  zE : ∀ w, (Go.sizeOf 56).run P w = .ok k w
  f52 : P.funcs[52]? = some Try.f52
  f68 : P.funcs[68]? = some Try.f68
  f79 : P.funcs[79]? = some Try.f79
  f84 : P.funcs[84]? = some Try.f84
  e67 : ∀ args w, (callFunc 67 args).run P w = .ok (.enter 67 args) w
  e68 : ∀ args w, (callFunc 68 args).run P w = .ok (.enter 68 args) w
  e79 : ∀ args w, (callFunc 79 args).run P w = .ok (.enter 79 args) w
  e84 : ∀ args w, (callFunc 84 args).run P w = .ok (.enter 84 args) w
theorem laid5 : SL Try.prog 5 := {
  mixed := Try.insC.mixed
  t0 := Try.underlying0
  a0 := Try.isAgg0
  z0 := Try.sizeOf0
  v0 := Try.zeroValue0
  t3 := Try.underlying3
  a3 := Try.isAgg3
  z3 := Try.sizeOf3
  v3 := Try.zeroValue3
  t4 := Try.underlying4
  a4 := Try.isAgg4
  z4 := Try.sizeOf4
  v4 := Try.zeroValue4
  t44 := Try.underlying44
  a44 := Try.isAgg44
  z44 := Try.sizeOf44
  v44 := Try.zeroValue44
  t85 := Try.underlying85
  a85 := Try.isAgg85
  z85 := Try.sizeOf85
  v85 := Try.zeroValue85
  t128 := Try.underlying128
  a128 := Try.isAgg128
  z128 := Try.sizeOf128
  v128 := Try.zeroValue128
  aE := Try.isAgg56
  zE := Try.sizeOf56
  f52 := Try.func52
  f68 := Try.func68
  f79 := Try.func79
  f84 := Try.func84
  e67 := fun _ _ => rfl
  e68 := fun _ _ => rfl
  e79 := fun _ _ => rfl
  e84 := fun _ _ => rfl }
/-! ### two runs exchanged -/
section
variable {P : Program} {α : Type} [Inhabited α] {k : Nat} {enc : α → List Value}
set_option maxHeartbeats 4000000 in
set_option maxRecDepth 1000000 in
theorem swapr_any (L : SL P k) (blk off cap a b n : Nat) (fv : Value) (d0 d : Array α) (w0 w : World) (R : RowK enc k w0 blk off d0) (hs : d0.size = d.size) (S : SWK enc k w0 blk off d w) (hab : a + n ≤ b) (hb : b + n ≤ d.size) (hsz : d.size ≤ 100000) :
    Calls P 84 #[.slice (some ⟨blk, off, none⟩) d.size cap, .int .i64 a, .int .i64 b, .int .i64 n, fv] w fun e w' => e = .returned (.tuple #[]) ∧ SWK enc k w0 blk off (swapTo d a b n) w' := by
  have mixed := L.mixed; have aE := L.aE; have zE := L.zE
  have t0 := L.t0; have a0 := L.a0; have z0 := L.z0; have v0 := L.v0
  have t3 := L.t3; have a3 := L.a3; have z3 := L.z3; have v3 := L.v3
  have t4 := L.t4; have a4 := L.a4; have z4 := L.z4; have v4 := L.v4
  have t44 := L.t44; have a44 := L.a44; have z44 := L.z44; have v44 := L.v44
  have t85 := L.t85; have a85 := L.a85; have z85 := L.z85; have v85 := L.v85
  have t128 := L.t128; have a128 := L.a128; have z128 := L.z128; have v128 := L.v128
  have F84 := L.f84
  have S0 : Aside (SWK enc k w0 blk off d w) := S
  clear S
  go_enter F84, Try.ntmps84
  clear F84
  go_wp2
  go_loopg [10] n (fun kx s10 wr => ∃ i : Nat, s10 = .int .i64 i ∧ i ≤ n ∧ n - i ≤ kx ∧ Aside (SWK enc k w0 blk off (swapTo d a b i) wr))
  case atStart => exact ⟨0, rfl, by omega, by omega, S0⟩
  case round =>
    clear S0
    obtain ⟨i, rfl, hi, hkx, S1⟩ := hrel
    by_cases hlt : i < n
    · have hlt' : (i : Int) < (n : Int) := by omega
      have hz := swapTo_size d a b i
      have S2 : Aside (SWK enc k w0 blk off (swapTo d a b (i + 1)) ((wr.drew.setCells blk (off + (a + i) * k) (enc (swapTo d a b i)[b + i]!)).setCells blk (off + (b + i) * k) (enc (swapTo d a b i)[a + i]!))) := S1.out.swapped R (a + i) (b + i) (by omega) (by omega)
      have la := S1.out.ld1 R (by omega) P (a + i) (by omega)
      have lb := S1.out.ld1 R (by omega) P (b + i) (by omega)
      have sa := S1.out.st1 R (by omega) P (a + i) (by omega) (swapTo d a b i)[b + i]!
      have sb := S1.out.st2 R (by omega) P (a + i) (b + i) (by omega) (by omega) (swapTo d a b i)[b + i]! (swapTo d a b i)[a + i]!
      have na := R.hk (swapTo d a b i)[a + i]!
      have nb := R.hk (swapTo d a b i)[b + i]!
      generalize enc (swapTo d a b i)[a + i]! = cA at S2 la sb na
      generalize enc (swapTo d a b i)[b + i]! = cB at S2 lb sa sb nb
      have ba : (a : Int) + (i : Int) < (d.size : Int) := by omega
      have bb : (b : Int) + (i : Int) < (d.size : Int) := by omega
      have ea : ((a : Int) + (i : Int)).toNat = a + i := by omega
      have eb : ((b : Int) + (i : Int)).toNat = b + i := by omega
      have pa : (0 : Int) ≤ (a : Int) + (i : Int) := by omega
      have pb : (0 : Int) ≤ (b : Int) + (i : Int) := by omega
      have ra : IntKind.i64.wrap ((a : Int) + (i : Int)) = (a : Int) + (i : Int) := by rw [IntKind.wrap_i64]; omega
      have rb : IntKind.i64.wrap ((b : Int) + (i : Int)) = (b : Int) + (i : Int) := by rw [IntKind.wrap_i64]; omega
      clear S1 hz
      go_wp2_with fail
      go_big_region_o
      clear la lb sa sb
      generalize (wr.drew.setCells blk (off + (a + i) * k) cB).setCells blk (off + (b + i) * k) cA = w2 at S2 ⊢
      go_wp2
      go_roundg (n - (i + 1))
      case measure => omega
      case rel => exact ⟨i + 1, by simp, by omega, by omega, S2⟩
    · obtain rfl : i = n := by omega
      have hge : ¬ (i : Int) < (i : Int) := by omega
      go_wp2
      go_end0
      exact ⟨rfl, S1.out⟩
end
end Go.Proofs.Ytmcilmmnpolieaa
/- The sort's rotating. The theorem's premises are its conditions. -/
namespace Go.Proofs.Ytmcilmmnpolieaa
open Go.RowKit Go.Shelf Go.Sort
attribute [local go_sem] Oper.semAt_some
section
variable {P : Program} {α : Type} [Inhabited α] {k : Nat} {enc : α → List Value}
set_option maxHeartbeats 4000000 in
set_option maxRecDepth 1000000 in
theorem rotate_any (L : SL P k) (blk off cap a m b : Nat) (fv : Value) (d0 d : Array α) (w0 w : World) (R : RowK enc k w0 blk off d0) (hs : d0.size = d.size) (S : SWK enc k w0 blk off d w) (ham : a < m) (hmb : m < b) (hb : b ≤ d.size) (hsz : d.size ≤ 100000) :
    Calls P 79 #[.slice (some ⟨blk, off, none⟩) d.size cap, .int .i64 a, .int .i64 m, .int .i64 b, fv] w fun e w' => ∃ d', e = .returned (.tuple #[]) ∧ SWK enc k w0 blk off d' w' ∧ Rotated a m b d d' := by
  have mixed := L.mixed; have aE := L.aE; have zE := L.zE
  have t0 := L.t0; have a0 := L.a0; have z0 := L.z0; have v0 := L.v0
  have t3 := L.t3; have a3 := L.a3; have z3 := L.z3; have v3 := L.v3
  have t4 := L.t4; have a4 := L.a4; have z4 := L.z4; have v4 := L.v4
  have t44 := L.t44; have a44 := L.a44; have z44 := L.z44; have v44 := L.v44
  have t85 := L.t85; have a85 := L.a85; have z85 := L.z85; have v85 := L.v85
  have t128 := L.t128; have a128 := L.a128; have z128 := L.z128; have v128 := L.v128
  have F79 := L.f79
  have e84 := L.e84
  have S0 : Aside (SWK enc k w0 blk off d w) := S
  have hp0 : Aside (PermIn a b d d) := permIn_refl d a b
  clear S
  go_enter F79, Try.ntmps79
  clear F79
  go_wp2
  go_loopg [10, 11] (b - a) (fun kx s10 s11 wr => ∃ (i j : Nat) (e : Array α), s10 = .int .i64 i ∧ s11 = .int .i64 j ∧ 0 < i ∧ 0 < j ∧ i ≤ m - a ∧ j ≤ b - m ∧ i + j ≤ kx ∧ Aside (PermIn a b d e) ∧ Aside (∀ x, rotf e (m - i) m (m + j) x = rotf d a m b x) ∧ Aside (SWK enc k w0 blk off e wr))
  case atStart => exact ⟨m - a, b - m, d, by congr 1; omega, by congr 1; omega, by omega, by omega, Nat.le_refl _, Nat.le_refl _, by omega, hp0, (fun x => by rw [show m - (m - a) = a by omega, show m + (b - m) = b by omega]), S0⟩
  case round =>
    clear S0 hp0
    obtain ⟨i, j, e, rfl, rfl, hi0, hj0, him, hjb, hkx, HP, HR, S1⟩ := hrel
    have hes : e.size = d.size := HP.out.1
    have c1 : ((m - i : Nat) : Int) = (m : Int) - (i : Int) := by omega
    by_cases hij : j < i
    · have C := swapr_any L blk off cap (m - i) m j fv d0 e w0 wr R (by omega) S1.out (by omega) (by omega) (by omega)
      rw [c1, hes] at C
      have HC := Lib.hid C
      have HP2 : Aside (PermIn a b d (swapTo e (m - i) m j)) := permIn_trans _ _ _ a b HP.out (swapTo_perm e (m - i) m j a b (by omega) (by omega) (by omega) (by omega) j (Nat.le_refl _))
      have HR2 : Aside (∀ x, rotf (swapTo e (m - i) m j) (m - (i - j)) m (m + j) x = rotf d a m b x) := fun x => by rw [rot_left (by omega) hj0 hij (by omega)]; exact HR.out x
      have e1 : ((i : Int) != (j : Int)) = true := by rw [bne_iff_ne]; omega
      have d1 : decide ((j : Int) < (i : Int)) = true := decide_eq_true (by omega)
      clear C c1 hes
      go_wp2_with fail
      refine HC.out.mono ?_
      rintro e9 w9 ⟨rfl, S2⟩
      have HS2 := Lib.hid S2
      clear S2 HC S1 HP HR
      go_wp2_with fail
      go_roundg (i - j + j)
      case measure => omega
      case rel => exact ⟨i - j, j, _, by congr 1; omega, rfl, by omega, hj0, by omega, hjb, by omega, HP2, HR2, HS2⟩
    · by_cases hji : i < j
      · have c2 : ((m + j - i : Nat) : Int) = (m : Int) + (j : Int) - (i : Int) := by omega
        have C := swapr_any L blk off cap (m - i) (m + j - i) i fv d0 e w0 wr R (by omega) S1.out (by omega) (by omega) (by omega)
        rw [c1, c2, hes] at C
        have HC := Lib.hid C
        have HP2 : Aside (PermIn a b d (swapTo e (m - i) (m + j - i) i)) := permIn_trans _ _ _ a b HP.out (swapTo_perm e (m - i) (m + j - i) i a b (by omega) (by omega) (by omega) (by omega) i (Nat.le_refl _))
        have HR2 : Aside (∀ x, rotf (swapTo e (m - i) (m + j - i) i) (m - i) m (m + (j - i)) x = rotf d a m b x) := fun x => by rw [rot_right (by omega) hi0 hji (by omega)]; exact HR.out x
        have e1 : ((i : Int) != (j : Int)) = true := by rw [bne_iff_ne]; omega
        have d1 : decide ((j : Int) < (i : Int)) = false := decide_eq_false (by omega)
        clear C c1 c2 hes
        go_wp2_with fail
        refine HC.out.mono ?_
        rintro e9 w9 ⟨rfl, S2⟩
        have HS2 := Lib.hid S2
        clear S2 HC S1 HP HR
        go_wp2_with fail
        go_roundg (i + (j - i))
        case measure => omega
        case rel => exact ⟨i, j - i, _, rfl, by congr 1; omega, hi0, by omega, him, by omega, by omega, HP2, HR2, HS2⟩
      · obtain rfl : i = j := by omega
        have C := swapr_any L blk off cap (m - i) m i fv d0 e w0 wr R (by omega) S1.out (by omega) (by omega) (by omega)
        rw [c1, hes] at C
        have HC := Lib.hid C
        have HP2 : Aside (PermIn a b d (swapTo e (m - i) m i)) := permIn_trans _ _ _ a b HP.out (swapTo_perm e (m - i) m i a b (by omega) (by omega) (by omega) (by omega) i (Nat.le_refl _))
        have HR2 : Aside (∀ x, (swapTo e (m - i) m i)[x]! = rotf d a m b x) := fun x => by rw [rot_last (by omega) (by omega)]; exact HR.out x
        have e1 : ((i : Int) != (i : Int)) = false := by simp
        clear C c1 hes
        go_wp2_with fail
        refine HC.out.mono ?_
        rintro e9 w9 ⟨rfl, S2⟩
        have HS2 := Lib.hid S2
        clear S2 HC S1 HP HR
        go_wp2_with fail
        go_end0
        exact ⟨_, rfl, HS2.out, HP2.out, HR2.out⟩
end
end Go.Proofs.Ytmcilmmnpolieaa
