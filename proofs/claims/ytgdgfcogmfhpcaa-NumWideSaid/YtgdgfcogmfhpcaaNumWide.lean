/- NumWide answers true at every four numbers. No condition. -/
import Derived.Test.YtgdgfcogmfhpcaaNumAwake
import Derived.Test.YtgdgfcogmfhpcaaNumAdd
import Derived.Test.YtgdgfcogmfhpcaaNumLess
import Derived.Test.YtgdgfcogmfhpcaaSmall
import Derived.WalkLawsBesides
import Derived.WalkSpells
import Derived.Outline
import Derived.Deep.RegionWith
namespace Go.Proofs.Ytgdgfcogmfhpcaa.numWide
open Go.ChangeShapes Go.WideShapes Go.ChangeAt Go.RowKit Go.Joins

/-! ### what is called -/
theorem gives_bad (a b : Int) (h : a < 0 ∨ b < 0) (w : World) : Calls Try.prog 23 #[.int .i64 a, .int .i64 b] w (Gives (.tuple #[.agg #[.int .u64 0, .int .u64 0], .int .i64 10]) w) := by
  refine (product_bad a b h w).mono ?_
  rintro e w' ⟨rfl, rfl⟩
  exact ⟨rfl, bel_alloc (Below.refl _ _)⟩
theorem gives_ok (a b : Int) (ha : 0 ≤ a) (hb : 0 ≤ b) (ha' : a ≤ 9223372036854775807) (hb' : b ≤ 9223372036854775807) (w : World) : Calls Try.prog 23 #[.int .i64 a, .int .i64 b] w (Gives (.tuple #[.agg #[.int .u64 ((a.toNat * b.toNat / 18446744073709551616 : Nat) : Int), .int .u64 ((a.toNat * b.toNat % 18446744073709551616 : Nat) : Int)], .int .i64 0]) w) := by
  refine (product_ok a b ha hb ha' hb' w).mono ?_
  rintro e w' ⟨rfl, rfl⟩
  exact ⟨rfl, bel_alloc (Below.refl _ _)⟩
theorem gives_some (a b : Int) (ha' : a ≤ 9223372036854775807) (hb' : b ≤ 9223372036854775807) : ∃ h l e : Int, ∀ w : World, Calls Try.prog 23 #[.int .i64 a, .int .i64 b] w (Gives (.tuple #[.agg #[.int .u64 h, .int .u64 l], .int .i64 e]) w) := by
  by_cases h : a < 0 ∨ b < 0
  · exact ⟨_, _, _, gives_bad a b h⟩
  · exact ⟨_, _, _, gives_ok a b (by omega) (by omega) ha' hb'⟩

/-! ### the walk -/
set_option maxRecDepth 100000 in
set_option maxHeartbeats 4000000 in
theorem bad0 (a b c d : Int) (h2 l2 e2 : Int) (hP : ∀ w, Calls Try.prog 23 #[.int .i64 a, .int .i64 b] w (Gives (.tuple #[.agg #[.int .u64 0, .int .u64 0], .int .i64 10]) w)) (hQ : ∀ w, Calls Try.prog 23 #[.int .i64 c, .int .i64 d] w (Gives (.tuple #[.agg #[.int .u64 h2, .int .u64 l2], .int .i64 e2]) w)) (hL : ∀ w, Calls Try.prog 24 #[.int .i64 a, .int .i64 b, .int .i64 c, .int .i64 d] w (Gives (.tuple #[.bool false, .int .i64 10]) w)) (h : a < 0) (w : World) : Calls Try.prog 6 #[.agg #[.int .i64 a, .int .i64 b, .int .i64 c, .int .i64 d]] w (Yes w) := by
  have P1 := Lib.hid hP
  have P2 := Lib.hid hQ
  have L := Lib.hid hL
  clear hP hQ hL
  go_enter Try.func6, Try.ntmps6
  go_wp2_with fail
  refine (P1.out _).mono ?_
  rintro e w1 ⟨rfl, b1⟩
  have a10 := b1.cell (p := ⟨w.heap.size, 0, none⟩) (by simp)
  have a11 := b1.cell (p := ⟨w.heap.size, 1, none⟩) (by simp)
  have a12 := b1.cell (p := ⟨w.heap.size, 2, none⟩) (by simp)
  have a13 := b1.cell (p := ⟨w.heap.size, 3, none⟩) (by simp)
  have z1 : w.heap.size < w1.heap.size := by
    have h := b1.size
    simp only [World.size_alloc] at h
    omega
  go_wp2_with fail
  refine (P2.out _).mono ?_
  rintro e w2 ⟨rfl, b2⟩
  have r2 := bel_end (bel_alloc b1) b2
  clear a10 a11 a12 a13
  have a20 := r2.cell (p := ⟨w.heap.size, 0, none⟩) (by simp)
  have a21 := r2.cell (p := ⟨w.heap.size, 1, none⟩) (by simp)
  have a22 := r2.cell (p := ⟨w.heap.size, 2, none⟩) (by simp)
  have a23 := r2.cell (p := ⟨w.heap.size, 3, none⟩) (by simp)
  have z2 : w.heap.size < w2.heap.size := by
    have h := r2.size
    simp only [World.size_alloc] at h
    omega
  have z3 : w1.heap.size < w2.heap.size := by
    have h := b2.size
    simp only [World.size_alloc] at h
    omega
  go_wp2_with fail
  refine (L.out _).mono ?_
  rintro e w3 ⟨rfl, b3⟩
  have r3 := bel_end (bel_alloc r2) b3
  have q3 := bel_end (bel_alloc b2) b3
  have bb := bel_end (bel_alloc (bel_end (bel_alloc (bel_end (bel_alloc (Below.refl _ w)) b1)) b2)) b3
  clear a20 a21 a22 a23
  have a30 := r3.cell (p := ⟨w.heap.size, 0, none⟩) (by simp)
  have a31 := r3.cell (p := ⟨w.heap.size, 1, none⟩) (by simp)
  have a32 := r3.cell (p := ⟨w.heap.size, 2, none⟩) (by simp)
  have a33 := r3.cell (p := ⟨w.heap.size, 3, none⟩) (by simp)
  have p30 := q3.cell (p := ⟨w1.heap.size, 0, none⟩) (by simp)
  have p31 := q3.cell (p := ⟨w1.heap.size, 1, none⟩) (by simp)
  go_wp2_with (go_at_call 12; refine (awake_yes _).mono ?_; rintro e w' ⟨rfl, hb⟩)
  go_ret
  exact ⟨rfl, bel_end bb hb⟩
set_option maxRecDepth 100000 in
set_option maxHeartbeats 4000000 in
theorem bad1 (a b c d : Int) (h2 l2 e2 : Int) (hP : ∀ w, Calls Try.prog 23 #[.int .i64 a, .int .i64 b] w (Gives (.tuple #[.agg #[.int .u64 0, .int .u64 0], .int .i64 10]) w)) (hQ : ∀ w, Calls Try.prog 23 #[.int .i64 c, .int .i64 d] w (Gives (.tuple #[.agg #[.int .u64 h2, .int .u64 l2], .int .i64 e2]) w)) (hL : ∀ w, Calls Try.prog 24 #[.int .i64 a, .int .i64 b, .int .i64 c, .int .i64 d] w (Gives (.tuple #[.bool false, .int .i64 10]) w)) (h0 : 0 ≤ a) (h : b < 0) (w : World) : Calls Try.prog 6 #[.agg #[.int .i64 a, .int .i64 b, .int .i64 c, .int .i64 d]] w (Yes w) := by
  have P1 := Lib.hid hP
  have P2 := Lib.hid hQ
  have L := Lib.hid hL
  clear hP hQ hL
  go_enter Try.func6, Try.ntmps6
  go_wp2_with fail
  refine (P1.out _).mono ?_
  rintro e w1 ⟨rfl, b1⟩
  have a10 := b1.cell (p := ⟨w.heap.size, 0, none⟩) (by simp)
  have a11 := b1.cell (p := ⟨w.heap.size, 1, none⟩) (by simp)
  have a12 := b1.cell (p := ⟨w.heap.size, 2, none⟩) (by simp)
  have a13 := b1.cell (p := ⟨w.heap.size, 3, none⟩) (by simp)
  have z1 : w.heap.size < w1.heap.size := by
    have h := b1.size
    simp only [World.size_alloc] at h
    omega
  go_wp2_with fail
  refine (P2.out _).mono ?_
  rintro e w2 ⟨rfl, b2⟩
  have r2 := bel_end (bel_alloc b1) b2
  clear a10 a11 a12 a13
  have a20 := r2.cell (p := ⟨w.heap.size, 0, none⟩) (by simp)
  have a21 := r2.cell (p := ⟨w.heap.size, 1, none⟩) (by simp)
  have a22 := r2.cell (p := ⟨w.heap.size, 2, none⟩) (by simp)
  have a23 := r2.cell (p := ⟨w.heap.size, 3, none⟩) (by simp)
  have z2 : w.heap.size < w2.heap.size := by
    have h := r2.size
    simp only [World.size_alloc] at h
    omega
  have z3 : w1.heap.size < w2.heap.size := by
    have h := b2.size
    simp only [World.size_alloc] at h
    omega
  go_wp2_with fail
  refine (L.out _).mono ?_
  rintro e w3 ⟨rfl, b3⟩
  have r3 := bel_end (bel_alloc r2) b3
  have q3 := bel_end (bel_alloc b2) b3
  have bb := bel_end (bel_alloc (bel_end (bel_alloc (bel_end (bel_alloc (Below.refl _ w)) b1)) b2)) b3
  clear a20 a21 a22 a23
  have a30 := r3.cell (p := ⟨w.heap.size, 0, none⟩) (by simp)
  have a31 := r3.cell (p := ⟨w.heap.size, 1, none⟩) (by simp)
  have a32 := r3.cell (p := ⟨w.heap.size, 2, none⟩) (by simp)
  have a33 := r3.cell (p := ⟨w.heap.size, 3, none⟩) (by simp)
  have p30 := q3.cell (p := ⟨w1.heap.size, 0, none⟩) (by simp)
  have p31 := q3.cell (p := ⟨w1.heap.size, 1, none⟩) (by simp)
  go_wp2_with (go_at_call 12; refine (awake_yes _).mono ?_; rintro e w' ⟨rfl, hb⟩)
  go_ret
  exact ⟨rfl, bel_end bb hb⟩
set_option maxRecDepth 100000 in
set_option maxHeartbeats 4000000 in
theorem bad2 (a b c d : Int) (h1' l1 e1 h2' l2 e2 : Int) (hP : ∀ w, Calls Try.prog 23 #[.int .i64 a, .int .i64 b] w (Gives (.tuple #[.agg #[.int .u64 h1', .int .u64 l1], .int .i64 e1]) w)) (hQ : ∀ w, Calls Try.prog 23 #[.int .i64 c, .int .i64 d] w (Gives (.tuple #[.agg #[.int .u64 h2', .int .u64 l2], .int .i64 e2]) w)) (hL : ∀ w, Calls Try.prog 24 #[.int .i64 a, .int .i64 b, .int .i64 c, .int .i64 d] w (Gives (.tuple #[.bool false, .int .i64 10]) w)) (h0 : 0 ≤ a) (h1 : 0 ≤ b) (h : c < 0) (w : World) : Calls Try.prog 6 #[.agg #[.int .i64 a, .int .i64 b, .int .i64 c, .int .i64 d]] w (Yes w) := by
  have P1 := Lib.hid hP
  have P2 := Lib.hid hQ
  have L := Lib.hid hL
  clear hP hQ hL
  go_enter Try.func6, Try.ntmps6
  go_wp2_with fail
  refine (P1.out _).mono ?_
  rintro e w1 ⟨rfl, b1⟩
  have a10 := b1.cell (p := ⟨w.heap.size, 0, none⟩) (by simp)
  have a11 := b1.cell (p := ⟨w.heap.size, 1, none⟩) (by simp)
  have a12 := b1.cell (p := ⟨w.heap.size, 2, none⟩) (by simp)
  have a13 := b1.cell (p := ⟨w.heap.size, 3, none⟩) (by simp)
  have z1 : w.heap.size < w1.heap.size := by
    have h := b1.size
    simp only [World.size_alloc] at h
    omega
  go_wp2_with fail
  refine (P2.out _).mono ?_
  rintro e w2 ⟨rfl, b2⟩
  have r2 := bel_end (bel_alloc b1) b2
  clear a10 a11 a12 a13
  have a20 := r2.cell (p := ⟨w.heap.size, 0, none⟩) (by simp)
  have a21 := r2.cell (p := ⟨w.heap.size, 1, none⟩) (by simp)
  have a22 := r2.cell (p := ⟨w.heap.size, 2, none⟩) (by simp)
  have a23 := r2.cell (p := ⟨w.heap.size, 3, none⟩) (by simp)
  have z2 : w.heap.size < w2.heap.size := by
    have h := r2.size
    simp only [World.size_alloc] at h
    omega
  have z3 : w1.heap.size < w2.heap.size := by
    have h := b2.size
    simp only [World.size_alloc] at h
    omega
  go_wp2_with fail
  refine (L.out _).mono ?_
  rintro e w3 ⟨rfl, b3⟩
  have r3 := bel_end (bel_alloc r2) b3
  have q3 := bel_end (bel_alloc b2) b3
  have bb := bel_end (bel_alloc (bel_end (bel_alloc (bel_end (bel_alloc (Below.refl _ w)) b1)) b2)) b3
  clear a20 a21 a22 a23
  have a30 := r3.cell (p := ⟨w.heap.size, 0, none⟩) (by simp)
  have a31 := r3.cell (p := ⟨w.heap.size, 1, none⟩) (by simp)
  have a32 := r3.cell (p := ⟨w.heap.size, 2, none⟩) (by simp)
  have a33 := r3.cell (p := ⟨w.heap.size, 3, none⟩) (by simp)
  go_wp2_with (go_at_call 12; refine (awake_yes _).mono ?_; rintro e w' ⟨rfl, hb⟩)
  go_ret
  exact ⟨rfl, bel_end bb hb⟩
set_option maxRecDepth 100000 in
set_option maxHeartbeats 4000000 in
theorem bad3 (a b c d : Int) (h1' l1 e1 h2' l2 e2 : Int) (hP : ∀ w, Calls Try.prog 23 #[.int .i64 a, .int .i64 b] w (Gives (.tuple #[.agg #[.int .u64 h1', .int .u64 l1], .int .i64 e1]) w)) (hQ : ∀ w, Calls Try.prog 23 #[.int .i64 c, .int .i64 d] w (Gives (.tuple #[.agg #[.int .u64 h2', .int .u64 l2], .int .i64 e2]) w)) (hL : ∀ w, Calls Try.prog 24 #[.int .i64 a, .int .i64 b, .int .i64 c, .int .i64 d] w (Gives (.tuple #[.bool false, .int .i64 10]) w)) (h0 : 0 ≤ a) (h1 : 0 ≤ b) (h2 : 0 ≤ c) (h : d < 0) (w : World) : Calls Try.prog 6 #[.agg #[.int .i64 a, .int .i64 b, .int .i64 c, .int .i64 d]] w (Yes w) := by
  have P1 := Lib.hid hP
  have P2 := Lib.hid hQ
  have L := Lib.hid hL
  clear hP hQ hL
  go_enter Try.func6, Try.ntmps6
  go_wp2_with fail
  refine (P1.out _).mono ?_
  rintro e w1 ⟨rfl, b1⟩
  have a10 := b1.cell (p := ⟨w.heap.size, 0, none⟩) (by simp)
  have a11 := b1.cell (p := ⟨w.heap.size, 1, none⟩) (by simp)
  have a12 := b1.cell (p := ⟨w.heap.size, 2, none⟩) (by simp)
  have a13 := b1.cell (p := ⟨w.heap.size, 3, none⟩) (by simp)
  have z1 : w.heap.size < w1.heap.size := by
    have h := b1.size
    simp only [World.size_alloc] at h
    omega
  go_wp2_with fail
  refine (P2.out _).mono ?_
  rintro e w2 ⟨rfl, b2⟩
  have r2 := bel_end (bel_alloc b1) b2
  clear a10 a11 a12 a13
  have a20 := r2.cell (p := ⟨w.heap.size, 0, none⟩) (by simp)
  have a21 := r2.cell (p := ⟨w.heap.size, 1, none⟩) (by simp)
  have a22 := r2.cell (p := ⟨w.heap.size, 2, none⟩) (by simp)
  have a23 := r2.cell (p := ⟨w.heap.size, 3, none⟩) (by simp)
  have z2 : w.heap.size < w2.heap.size := by
    have h := r2.size
    simp only [World.size_alloc] at h
    omega
  have z3 : w1.heap.size < w2.heap.size := by
    have h := b2.size
    simp only [World.size_alloc] at h
    omega
  go_wp2_with fail
  refine (L.out _).mono ?_
  rintro e w3 ⟨rfl, b3⟩
  have r3 := bel_end (bel_alloc r2) b3
  have q3 := bel_end (bel_alloc b2) b3
  have bb := bel_end (bel_alloc (bel_end (bel_alloc (bel_end (bel_alloc (Below.refl _ w)) b1)) b2)) b3
  clear a20 a21 a22 a23
  have a30 := r3.cell (p := ⟨w.heap.size, 0, none⟩) (by simp)
  have a31 := r3.cell (p := ⟨w.heap.size, 1, none⟩) (by simp)
  have a32 := r3.cell (p := ⟨w.heap.size, 2, none⟩) (by simp)
  have a33 := r3.cell (p := ⟨w.heap.size, 3, none⟩) (by simp)
  go_wp2_with (go_at_call 12; refine (awake_yes _).mono ?_; rintro e w' ⟨rfl, hb⟩)
  go_ret
  exact ⟨rfl, bel_end bb hb⟩
set_option maxRecDepth 100000 in
set_option maxHeartbeats 4000000 in
theorem good (x y z u : Nat) (hx : x ≤ 9223372036854775807) (hy : y ≤ 9223372036854775807) (hz : z ≤ 9223372036854775807) (hu : u ≤ 9223372036854775807) (A B : Nat) (hA : x * y = A) (hB : z * u = B) (h l k m : Nat) (hh : h < 18446744073709551616) (hl : l < 18446744073709551616) (hk : k < 18446744073709551616) (hm : m < 18446744073709551616) (eA : h * 18446744073709551616 + l = A) (eB : k * 18446744073709551616 + m = B) (hS : A + B < 680564733841876926926749214863536422912) (hi lo : Nat) (hhi : hi < 18446744073709551616) (hlo : lo < 18446744073709551616) (hs : hi * 18446744073709551616 + lo = A + B)
    (hP : ∀ w, Calls Try.prog 23 #[.int .i64 x, .int .i64 y] w (Gives (.tuple #[.agg #[.int .u64 h, .int .u64 l], .int .i64 0]) w)) (hQ : ∀ w, Calls Try.prog 23 #[.int .i64 z, .int .i64 u] w (Gives (.tuple #[.agg #[.int .u64 k, .int .u64 m], .int .i64 0]) w)) (r : Bool) (hr : decide (A < B) = r)
    (hL : ∀ w, Calls Try.prog 24 #[.int .i64 x, .int .i64 y, .int .i64 z, .int .i64 u] w (Gives (.tuple #[.bool r, .int .i64 0]) w))
    (hadd : ∀ w, Calls Try.prog 26 #[.agg #[.int .u64 h, .int .u64 l], .agg #[.int .u64 k, .int .u64 m]] w (Gives (.tuple #[.agg #[.int .u64 hi, .int .u64 lo], .int .i64 0]) w)) (w : World) : Calls Try.prog 6 #[.agg #[.int .i64 x, .int .i64 y, .int .i64 z, .int .i64 u]] w (Yes w) := by
  have P1 := Lib.hid hP
  have P2 := Lib.hid hQ
  have L := Lib.hid hL
  have AD := Lib.hid hadd
  have T1 := Lib.hid (times_any x y (by omega) (by omega))
  have T2 := Lib.hid (times_any z u (by omega) (by omega))
  rw [hA] at T1
  rw [hB] at T2
  have BM := Lib.hid (big_mod hS)
  have S1 := Lib.hid (fun v w hv => same_any h l hh hl v A w hv)
  have S2 := Lib.hid (fun v w hv => same_any k m hk hm v B w hv)
  have S3 := Lib.hid (fun v w hv => same_any hi lo hhi hlo v (A + B) w hv)
  have D1 : Hid (decide (h * 18446744073709551616 + l = A) = true) := decide_eq_true eA
  have D2 : Hid (decide (k * 18446744073709551616 + m = B) = true) := decide_eq_true eB
  have D3 : Hid (decide (hi * 18446744073709551616 + lo = A + B) = true) := decide_eq_true hs
  have HR := Lib.hid hr
  have rr : (r != r) = false := by simp
  have e1 := u64_of x hx
  have e2 := u64_of y hy
  have e3 := u64_of z hz
  have e4 := u64_of u hu
  have f1 : decide ((x : Int) < 0) = false := by simp
  have f2 : decide ((y : Int) < 0) = false := by simp
  have f3 : decide ((z : Int) < 0) = false := by simp
  have f4 : decide ((u : Int) < 0) = false := by simp
  clear hP hQ hL hadd hA hB eA eB hS hs hh hl hk hm hhi hlo hr hx hy hz hu
  go_enter Try.func6, Try.ntmps6
  go_wp2_with fail
  refine (P1.out _).mono ?_
  rintro e w1 ⟨rfl, b1⟩
  have a10 := b1.cell (p := ⟨w.heap.size, 0, none⟩) (by simp)
  have a11 := b1.cell (p := ⟨w.heap.size, 1, none⟩) (by simp)
  have a12 := b1.cell (p := ⟨w.heap.size, 2, none⟩) (by simp)
  have a13 := b1.cell (p := ⟨w.heap.size, 3, none⟩) (by simp)
  have z1 : w.heap.size < w1.heap.size := by
    have h := b1.size
    simp only [World.size_alloc] at h
    omega
  go_wp2_with fail
  refine (P2.out _).mono ?_
  rintro e w2 ⟨rfl, b2⟩
  have r2 := bel_end (bel_alloc b1) b2
  clear a10 a11 a12 a13
  have a20 := r2.cell (p := ⟨w.heap.size, 0, none⟩) (by simp)
  have a21 := r2.cell (p := ⟨w.heap.size, 1, none⟩) (by simp)
  have a22 := r2.cell (p := ⟨w.heap.size, 2, none⟩) (by simp)
  have a23 := r2.cell (p := ⟨w.heap.size, 3, none⟩) (by simp)
  have z2 : w.heap.size < w2.heap.size := by
    have h := r2.size
    simp only [World.size_alloc] at h
    omega
  have z3 : w1.heap.size < w2.heap.size := by
    have h := b2.size
    simp only [World.size_alloc] at h
    omega
  go_wp2_with fail
  refine (L.out _).mono ?_
  rintro e w3 ⟨rfl, b3⟩
  have r3 := bel_end (bel_alloc r2) b3
  have q3 := bel_end (bel_alloc b2) b3
  have bb := bel_end (bel_alloc (bel_end (bel_alloc (bel_end (bel_alloc (Below.refl _ w)) b1)) b2)) b3
  clear a20 a21 a22 a23
  have a30 := r3.cell (p := ⟨w.heap.size, 0, none⟩) (by simp)
  have a31 := r3.cell (p := ⟨w.heap.size, 1, none⟩) (by simp)
  have a32 := r3.cell (p := ⟨w.heap.size, 2, none⟩) (by simp)
  have a33 := r3.cell (p := ⟨w.heap.size, 3, none⟩) (by simp)
  have R3 := Lib.hid r3
  have Q3 := Lib.hid q3
  have B3 := Lib.hid b3
  have BB := Lib.hid bb
  clear r2 b1 b2 r3 q3 b3 bb
  go_wp2_with fail
  refine (T1.out _).mono ?_
  rintro e w4 ⟨v1, rfl, n1, b4⟩
  have r4 := bel_end R3.out b4
  clear a30 a31 a32 a33
  have a40 := r4.cell (p := ⟨w.heap.size, 0, none⟩) (by simp)
  have a41 := r4.cell (p := ⟨w.heap.size, 1, none⟩) (by simp)
  have a42 := r4.cell (p := ⟨w.heap.size, 2, none⟩) (by simp)
  have a43 := r4.cell (p := ⟨w.heap.size, 3, none⟩) (by simp)
  go_wp2_with fail
  refine (T2.out _).mono ?_
  rintro e w5 ⟨v2, rfl, n2, b5⟩
  have N1 := Lib.hid (n1.below b5)
  have N2 := Lib.hid n2
  have Q5 := Lib.hid (bel_end (bel_end Q3.out b4) b5)
  have B5 := Lib.hid (bel_end (bel_end B3.out b4) b5)
  have BB5 := Lib.hid (bel_end (bel_end BB.out b4) b5)
  clear a40 a41 a42 a43
  clear r4 n1 n2 b4 b5 R3 Q3 B3 BB
  have p50 := Q5.out.cell (p := ⟨w1.heap.size, 0, none⟩) (by simp)
  have p51 := Q5.out.cell (p := ⟨w1.heap.size, 1, none⟩) (by simp)
  have s50 := B5.out.cell (p := ⟨w2.heap.size, 0, none⟩) (by simp)
  have s51 := B5.out.cell (p := ⟨w2.heap.size, 1, none⟩) (by simp)
  go_wp2_with fail
  refine (S1.out v1 _ N1.out).mono ?_
  rw [D1.out]
  rintro e w6 ⟨rfl, b6⟩
  have N1' := Lib.hid (N1.out.below b6)
  have N2' := Lib.hid (N2.out.below b6)
  have Q6 := Lib.hid (bel_end Q5.out b6)
  have B6 := Lib.hid (bel_end B5.out b6)
  have BB6 := Lib.hid (bel_end BB5.out b6)
  clear b6 N1 N2 Q5 B5 BB5 p50 p51 s50 s51
  have s60 := B6.out.cell (p := ⟨w2.heap.size, 0, none⟩) (by simp)
  have s61 := B6.out.cell (p := ⟨w2.heap.size, 1, none⟩) (by simp)
  go_wp2_with fail
  refine (S2.out v2 _ N2'.out).mono ?_
  rw [D2.out]
  rintro e w7 ⟨rfl, b7⟩
  have N1 := Lib.hid (N1'.out.below b7)
  have N2 := Lib.hid (N2'.out.below b7)
  have Q7 := Lib.hid (bel_end Q6.out b7)
  have B7 := Lib.hid (bel_end B6.out b7)
  have BB7 := Lib.hid (bel_end BB6.out b7)
  clear b7 N1' N2' Q6 B6 BB6 s60 s61
  go_wp2_with fail
  refine (under_any v1 v2 A B _ N1.out N2.out).mono ?_
  rw [HR.out]
  rintro e w8 ⟨rfl, k8, rfl⟩
  have p70 := Q7.out.cell (p := ⟨w1.heap.size, 0, none⟩) (by simp)
  have p71 := Q7.out.cell (p := ⟨w1.heap.size, 1, none⟩) (by simp)
  have s70 := B7.out.cell (p := ⟨w2.heap.size, 0, none⟩) (by simp)
  have s71 := B7.out.cell (p := ⟨w2.heap.size, 1, none⟩) (by simp)
  go_wp2_with fail
  refine (AD.out _).mono ?_
  rintro e w9 ⟨rfl, b9⟩
  have N1' := Lib.hid ((N1.out.below (below_drewN k8)).below b9)
  have N2' := Lib.hid ((N2.out.below (below_drewN k8)).below b9)
  have BB9 := Lib.hid (bel_end (bel_end BB7.out (below_drewN k8)) b9)
  clear b9 N1 N2 p70 p71 s70 s71 Q7 B7 BB7
  have PL : Hid (∀ w', Below (w9.alloc (.cells #[.int .u64 hi, .int .u64 lo] 43)).heap.size (w9.alloc (.cells #[.int .u64 hi, .int .u64 lo] 43)) w' → Calls Try.prog 16 #[v1, v2] w' (GivesNum (A + B) w')) := fun w' hb => by
    have h := plus_any v1 v2 A B w' ((N1'.out.below (bel_alloc (Below.refl _ _))).below hb) ((N2'.out.below (bel_alloc (Below.refl _ _))).below hb)
    rw [BM.out] at h
    exact h
  clear N1' N2'
  go_wp2_with fail
  go_region_with (first
    | (go_at_call 16; refine (PL.out _ ?_).mono ?_; (repeat (first | with_reducible exact Below.refl _ _ | with_reducible refine bel_alloc ?_ | with_reducible refine bel_drew ?_)); rintro e w10 ⟨v3, rfl, n3, b10⟩; have p0 := b10.cell (p := ⟨w9.heap.size, 0, none⟩) (by simp); have p1 := b10.cell (p := ⟨w9.heap.size, 1, none⟩) (by simp))
    | (go_at_call 25; refine (S3.out v3 _ ?_).mono ?_; exact n3; rw [D3.out]; rintro e w11 ⟨rfl, b11⟩)
    | (go_at_call 12; refine (awake_yes _).mono ?_; rintro e w' ⟨rfl, hb⟩))
  all_goals (try go_wp2)
  all_goals go_ret
  all_goals (refine ⟨rfl, bel_end (bel_end (bel_end ?_ b10) b11) hb⟩; (repeat (first | with_reducible refine bel_alloc ?_ | with_reducible refine bel_drew ?_)); exact BB9.out)
theorem two_low {A B : Nat} (hA : A ≤ 85070591730234615847396907784232501249) (hB : B ≤ 85070591730234615847396907784232501249) : A + B < 18446744073709551616 * 18446744073709551616 := by omega
theorem two_big {A B : Nat} (hA : A ≤ 85070591730234615847396907784232501249) (hB : B ≤ 85070591730234615847396907784232501249) : A + B < 680564733841876926926749214863536422912 := by omega
theorem ov_zero {X Y Z S : Nat} (e : S = 0 * X + Y + Z) : Y + Z = S := by rw [e, Nat.zero_mul, Nat.zero_add]
theorem ov_none {A B ov X hi lo : Nat} (h : A + B < X) (e : A + B = ov * X + hi * 18446744073709551616 + lo) : ov = 0 := by
  apply Classical.byContradiction
  intro h0
  have : 1 * X ≤ ov * X := Nat.mul_le_mul_right _ (by omega)
  omega
theorem walk (a b c d : Int) (wa : (Lit.int .i64 a).wf = true) (wb : (Lit.int .i64 b).wf = true) (wc : (Lit.int .i64 c).wf = true) (wd : (Lit.int .i64 d).wf = true) (w : World) : Calls Try.prog 6 #[.agg #[.int .i64 a, .int .i64 b, .int .i64 c, .int .i64 d]] w (Yes w) := by
  obtain ⟨_, a1⟩ := bounds_i64 wa
  obtain ⟨_, b1⟩ := bounds_i64 wb
  obtain ⟨_, c1⟩ := bounds_i64 wc
  obtain ⟨_, d1⟩ := bounds_i64 wd
  obtain ⟨h1, l1, e1, P1⟩ := gives_some a b (by omega) (by omega)
  obtain ⟨h2, l2, e2, P2⟩ := gives_some c d (by omega) (by omega)
  by_cases ha : a < 0
  · exact bad0 a b c d h2 l2 e2 (gives_bad a b (.inl ha)) P2 (less_bad a b c d (by omega) (by omega) (by omega) (by omega) (.inl ha)) ha w
  by_cases hb : b < 0
  · exact bad1 a b c d h2 l2 e2 (gives_bad a b (.inr hb)) P2 (less_bad a b c d (by omega) (by omega) (by omega) (by omega) (.inr (.inl hb))) (by omega) hb w
  by_cases hc : c < 0
  · exact bad2 a b c d h1 l1 e1 h2 l2 e2 P1 P2 (less_bad a b c d (by omega) (by omega) (by omega) (by omega) (.inr (.inr (.inl hc)))) (by omega) (by omega) hc w
  by_cases hd : d < 0
  · exact bad3 a b c d h1 l1 e1 h2 l2 e2 P1 P2 (less_bad a b c d (by omega) (by omega) (by omega) (by omega) (.inr (.inr (.inr hd)))) (by omega) (by omega) (by omega) hd w
  clear P1 P2 h1 l1 e1 h2 l2 e2
  obtain ⟨x, rfl⟩ := Int.eq_ofNat_of_zero_le (show 0 ≤ a by omega)
  obtain ⟨y, rfl⟩ := Int.eq_ofNat_of_zero_le (show 0 ≤ b by omega)
  obtain ⟨z, rfl⟩ := Int.eq_ofNat_of_zero_le (show 0 ≤ c by omega)
  obtain ⟨u, rfl⟩ := Int.eq_ofNat_of_zero_le (show 0 ≤ d by omega)
  have P1 := gives_ok x y (by omega) (by omega) a1 b1
  have P2 := gives_ok z u (by omega) (by omega) c1 d1
  have L : ∀ w, Calls Try.prog 24 #[.int .i64 x, .int .i64 y, .int .i64 z, .int .i64 u] w (Gives (.tuple #[.bool (decide (x * y < z * u)), .int .i64 0]) w) := less_ok x y z u (by omega) (by omega) (by omega) (by omega) a1 b1 c1 d1
  simp only [Int.toNat_natCast] at P1 P2
  have p1 : x * y ≤ 85070591730234615847396907784232501249 := prod_small (by omega) (by omega)
  have p2 : z * u ≤ 85070591730234615847396907784232501249 := prod_small (by omega) (by omega)
  obtain ⟨A, hA⟩ : ∃ A, x * y = A := ⟨_, rfl⟩
  obtain ⟨B, hB⟩ : ∃ B, z * u = B := ⟨_, rfl⟩
  rw [hA] at P1 L p1
  rw [hB] at P2 L p2
  have eA := Nat.div_add_mod' A 18446744073709551616
  have eB := Nat.div_add_mod' B 18446744073709551616
  have q1 := Nat.mod_lt A (show 0 < 18446744073709551616 by omega)
  have q2 := Nat.mod_lt B (show 0 < 18446744073709551616 by omega)
  have g1 : A / 18446744073709551616 < 18446744073709551616 := by omega
  have g2 : B / 18446744073709551616 < 18446744073709551616 := by omega
  generalize A / 18446744073709551616 = h at *
  generalize A % 18446744073709551616 = l at *
  generalize B / 18446744073709551616 = k at *
  generalize B % 18446744073709551616 = m at *
  obtain ⟨hi, lo, ov, e, hhi, hlo, hadd⟩ := add_all h l k m q1 q2
  rw [eA, eB] at e
  have hov := ov_none (two_low p1 p2) e
  subst hov
  simp only [if_true] at hadd
  exact good x y z u (by omega) (by omega) (by omega) (by omega) A B hA hB h l k m g1 q1 g2 q2 eA eB (two_big p1 p2) hi lo hhi hlo (ov_zero e) P1 P2 _ rfl L hadd w

set_option maxRecDepth 100000 in
theorem lifted (os : Os) (started : os.Started) (H : Type) (enc : TypeId × Value → H) :
    ReturnsInHanded {} Try.checked os 6 .any (Rows.numWideSpec.pre6 enc Try.prog Try.f6 Rows.numWideRow.domain false) (Rows.numWideSpec.post enc Try.prog Try.f6 false true false false) := by
  refine returnsInHanded_of_change (C := Try.checked) own started (by kernel_rfl) Try.func6
    (ChangeSpec.witness6 (enc := enc) (C := Try.checked) false ⟨#[], #[.agg #[.int .i64 0, .int .i64 0, .int .i64 0, .int .i64 0]], []⟩ 8 (by kernel_rfl) (by kernel_rfl) (by kernel_rfl) (by kernel_rfl)) ?_
  intro W base args ds gs before hval0 hW hcnd _
  have hval : ∀ (j : Nat) t v, Try.f6.params[j]? = some t → args[j]? = some v → Value.okWide Try.prog W .any base t v := hval0
  have hW' := hW
  obtain ⟨p, q, hA0, hV, _, hfz, hnd⟩ := hW'
  have hA : DataW.TrodAll enc Try.prog W 0 (fun _ => true) true Try.f6.params.toList args.toList ds p := hA0
  rw [Try.params6] at hA hval
  obtain ⟨v0, d0, rfl, _, h0⟩ := trodAll_one hA
  obtain ⟨a, b, c, d, rfl, wa, wb, wc, wd⟩ := open_arr4 Try.underlying41 Try.underlying3 (by kernel_rfl) (by kernel_rfl) (hval 0 41 v0 rfl rfl) h0
  refine (walk a b c d wa wb wc wd W).mono fun e W' h => ?_
  exact law_post (f := Try.f6) rfl rfl Try.underlying4 (by kernel_rfl) (fun ds hd => by
    match ds, hd with
    | [_], _ => rfl) hW h

theorem over : Rows.numWideRow.holds Try.pinned (OpenSpec.ofChange Rows.numWideSpec) :=
  OpenClaim.holds_of_wide 6 Try.f6 rfl rfl rfl rfl rfl rfl rfl ⟨rfl, rfl, rfl, rfl, rfl⟩ rfl rfl rfl rfl rfl (by kernel_rfl) Try.func6 (by kernel_rfl)
    (of_decide_eq_true (by kernel_rfl)) (by unfold Func.isWrapper; first | (rw [if_pos (by decide +kernel)]; kernel_rfl) | (rw [if_neg (by decide +kernel)]; exact ⟨rfl, rfl⟩))
    (fun os started H enc _ => lifted os started H enc)

/-- THE STATEMENT. -/
theorem proved : Rows.NumWideSaid := over
end Go.Proofs.Ytgdgfcogmfhpcaa.numWide
