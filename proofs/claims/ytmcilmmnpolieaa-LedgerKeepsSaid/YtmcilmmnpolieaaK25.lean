/- The stable sort of what is owed (up to 80): the same in another order, sorted. Each theorem's premises are its conditions. -/
import Derived.Test.YtmcilmmnpolieaaK24
/- The stable sort of what is owed (up to 80): the same in another order, sorted. Each theorem's premises are its conditions. -/
namespace Go.Proofs.Ytmcilmmnpolieaa
open Go.RowKit Go.Shelf Go.Sort
attribute [local go_sem] Oper.semAt_some

theorem rowK5 {w0 : World} {blk off : Nat} {d0 : Array VO} (hH : HoldsK enc5 5 w0 blk off d0) (hblk : blk < w0.heap.size) : RowK enc5 5 w0 blk off d0 := ⟨len5, one5, hH, hblk⟩
theorem eg33 : ∀ args w, (callFunc 33 args).run Try.prog w = .ok (.enter 33 args) w := fun _ _ => rfl
/-- one block is sorted by insertion. -/
theorem ins5 {blk off : Nat} (cap a b : Nat) {d0 d : Array VO} {w0 w : World} (R : RowK enc5 5 w0 blk off d0) (hs : d.size = d0.size) (S : SWK enc5 5 w0 blk off d w) (hab : a ≤ b) (hb : b ≤ d.size) (hsz : d.size ≤ 100000) :
    Calls Try.prog 67 #[.slice (some ⟨blk, off, none⟩) d.size cap, .int .i64 a, .int .i64 b, .func (.func 33) #[] #[]] w fun e w' => e = .returned (.tuple #[]) ∧ ∃ d', SWK enc5 5 w0 blk off d' w' ∧ PermIn a b d d' ∧ SortedIn (ltOf cmp5) a b d' := by
  have hH := S.holds R.hblk R.hH hs
  have hcon := AnyQ.insertionSortCmpFunc Try.insC 5 Try.isAgg56 Try.sizeOf56 enc5 len5 one5 cmp5 33 #[] blk off cap a b d w eg33 (cmp_lays blk off d.size w) hH (S.lt R.hblk) hab hb (by omega)
  change Calls Try.prog 67 _ _ _ at hcon
  refine hcon.mono ?_
  rintro e w' ⟨he, n, os, rfl⟩
  obtain ⟨p, s⟩ := insertionSort_holds (lt := ltOf cmp5) swo5 d a b hab hb
  exact ⟨he, _, S.on R.hblk n _ os p.1, p, s⟩
set_option maxHeartbeats 1000000 in
set_option maxRecDepth 1000000 in
theorem stable5 {blk off : Nat} (cap : Nat) {d0 d : Array VO} {w0 w : World} (R : RowK enc5 5 w0 blk off d0) (hs : d.size = d0.size) (S : SWK enc5 5 w0 blk off d w) (hsz : d.size ≤ 80) :
    Calls Try.prog 52 #[.slice (some ⟨blk, off, none⟩) d.size cap, .int .i64 d.size, .func (.func 33) #[] #[]] w fun e w' => e = .returned (.tuple #[]) ∧ ∃ d', SWK enc5 5 w0 blk off d' w' ∧ PermIn 0 d.size d d' ∧ SortedIn (ltOf cmp5) 0 d.size d' := by
  have S0 : Aside (SWK enc5 5 w0 blk off d w) := S
  have HSZ := Lib.hid hs
  clear S hs
  go_enter Try.func52, Try.ntmps52
  go_wp2_with fail
  go_loopg [7, 8] (d.size) (fun kx s7 s8 wr => ∃ (av : Nat) (d' : Array VO), s7 = .int .i64 av ∧ s8 = .int .i64 ((av : Int) + 20) ∧ av ≤ d.size ∧ d.size - av ≤ kx ∧ Aside ((∃ q, av = 20 * q) ∧ SWK enc5 5 w0 blk off d' wr ∧ PermIn 0 d.size d d' ∧ Blocks (ltOf cmp5) 20 av d'))
  case atStart => exact ⟨0, d, rfl, rfl, by omega, by omega, ⟨0, rfl⟩, S0.out, permIn_refl _ _ _, fun i j _ hj => by omega⟩
  case round =>
    clear S0
    obtain ⟨av, d1, rfl, rfl, hq, hkx, HA0⟩ := hrel
    obtain ⟨q, hav⟩ := HA0.out.1
    have HA := Lib.hid HA0.out.2
    have hz : d1.size = d.size := HA.out.2.1.1
    have HAV := Lib.hid hav
    clear hav HA0
    by_cases hlt : av + 20 ≤ d.size
    · have hlz : (av : Int) + 20 ≤ (d.size : Int) := by omega
      have hln : av + 20 ≤ d.size := hlt
      have C := ins5 cap av (av + 20) R (by have := HSZ.out; omega) HA.out.1 (by have := HSZ.out; omega) (by have := HSZ.out; omega) (by have := HSZ.out; omega)
      rw [hz, show ((av + 20 : Nat) : Int) = (av : Int) + 20 by omega] at C
      have HCC := Lib.hid C
      have HZ := Lib.hid hz
      clear C hz
      go_wp2_with fail
      refine HCC.out.mono ?_
      rintro e9 w9 ⟨rfl, d2, S2, hp2, hs2⟩
      have HA2 : Aside (SWK enc5 5 w0 blk off d2 w9 ∧ PermIn 0 d.size d d2 ∧ Blocks (ltOf cmp5) 20 (av + 20) d2) := ⟨S2, permIn_trans _ _ _ 0 d.size HA.out.2.1 (permIn_mono _ _ av (av + 20) 0 d.size (by omega) (by omega) (by have := HZ.out; omega) hp2), first_step (k := q) HAV.out rfl HA.out.2.2 hp2 hs2⟩
      clear S2 hp2 hs2 HCC HA
      go_wp2_with fail
      go_roundg (d.size - (av + 20))
      case measure => omega
      case rel => exact ⟨av + 20, d2, by first | rfl | (congr 1; done) | (congr 1; omega) | (simp; omega), by first | rfl | (congr 1; done) | (congr 1; omega) | (simp; omega), by omega, by omega, ⟨q + 1, by have := HAV.out; omega⟩, HA2.out⟩
    · have hlz : ¬ (av : Int) + 20 ≤ (d.size : Int) := by omega
      have hln : ¬ av + 20 ≤ d.size := hlt
      have C := ins5 cap av d.size R (by have := HSZ.out; omega) HA.out.1 (by have := HSZ.out; omega) (by have := HSZ.out; omega) (by have := HSZ.out; omega)
      rw [hz] at C
      have HCC := Lib.hid C
      have HZ := Lib.hid hz
      clear C hz
      go_wp2_with fail
      refine HCC.out.mono ?_
      rintro e9 w9 ⟨rfl, d1', S2, hp2, hs2⟩
      have HA1 : Aside (SWK enc5 5 w0 blk off d1' w9 ∧ PermIn 0 d.size d d1' ∧ Blocks (ltOf cmp5) 20 d.size d1') := ⟨S2, permIn_trans _ _ _ 0 d.size HA.out.2.1 (permIn_mono _ _ av d.size 0 d.size (by omega) (by omega) (by have := HZ.out; omega) hp2), first_end (k := q) HAV.out (by omega) HA.out.2.2 hp2 hs2⟩
      clear S2 hp2 hs2 HCC HA HAV
      go_wp2_with fail
      go_loopg [6] 60 (fun kx s6 wr => ∃ (bs : Nat) (z : Int) (d' : Array VO), (bs = 20 ∧ z = 20 ∨ bs = 40 ∧ z = 40 ∨ bs = 80 ∧ z = 80) ∧ s6 = .int .i64 z ∧ 80 - bs ≤ kx ∧ Aside (SWK enc5 5 w0 blk off d' wr ∧ PermIn 0 d.size d d' ∧ Blocks (ltOf cmp5) bs d.size d'))
      case atStart => exact ⟨20, 20, d1', by omega, rfl, by omega, HA1.out⟩
      case round =>
        clear HA1
        obtain ⟨bs, z, d1, hbs, rfl, hkx, HA1⟩ := hrel
        by_cases hbn : bs < d.size
        · rcases hbs with ⟨rfl, rfl⟩ | ⟨rfl, rfl⟩ | ⟨rfl, rfl⟩
          · have hbz : (20 : Int) < (d.size : Int) := by omega
            have hbd : decide ((20 : Int) < (d.size : Int)) = true := decide_eq_true hbz
            go_wp2_with fail
            go_loopg [7, 8] (d.size) (fun kx s7 s8 wr => ∃ (av : Nat) (d' : Array VO), s7 = .int .i64 av ∧ s8 = .int .i64 ((av : Int) + 40) ∧ av ≤ d.size ∧ d.size - av ≤ kx ∧ Aside ((∃ q, av = 40 * q) ∧ SWK enc5 5 w0 blk off d' wr ∧ PermIn 0 d.size d d' ∧ Half (ltOf cmp5) 20 d.size av d'))
            case atStart => exact ⟨0, d1, rfl, rfl, by omega, by omega, ⟨0, rfl⟩, HA1.out.1, HA1.out.2.1, half_start HA1.out.2.2⟩
            case round =>
              clear HA1
              obtain ⟨av, d2, rfl, rfl, hq, hkx2, HA0⟩ := hrel
              obtain ⟨q, hav⟩ := HA0.out.1
              have HA2 := Lib.hid HA0.out.2
              have hz2 : d2.size = d.size := HA2.out.2.1.1
              have HAV := Lib.hid hav
              clear hav HA0
              by_cases hlt : av + 40 ≤ d.size
              · have hlz : (av : Int) + 40 ≤ (d.size : Int) := by omega
                have hln : av + 40 ≤ d.size := hlt
                have C := sym_any (P := Try.prog) laid5 cmp5 swo5 33 #[] eg33 blk off cap d0 w0 R (cmp_lays blk off d0.size w0) (by have := HSZ.out; omega) (d2.size + 1) av (av + 20) (av + 40) d2 wr (by have := HSZ.out; omega) (by have := HSZ.out; omega) HA2.out.1 (by have := HSZ.out; omega) (by have := HSZ.out; omega) (by have := HSZ.out; omega)
                  (half_run1 (bs := 20) (k := q) (by have := HSZ.out; omega) (by have := HAV.out; omega) (by have := HSZ.out; omega) HA2.out.2.2) (half_run2 (bs := 20) (k := q) (by have := HSZ.out; omega) (by have := HAV.out; omega) (by have := HSZ.out; omega) (by have := HSZ.out; omega) HA2.out.2.2)
                rw [hz2, show ((av + 40 : Nat) : Int) = (av : Int) + 40 by omega, show ((av + 20 : Nat) : Int) = (av : Int) + 20 by omega] at C
                have HCC := Lib.hid C
                have HZ := Lib.hid hz2
                clear C hz2
                go_wp2_with fail
                refine HCC.out.mono ?_
                rintro e9 w9 ⟨d3, rfl, S3, hm3⟩
                have HA3 : Aside (SWK enc5 5 w0 blk off d3 w9 ∧ PermIn 0 d.size d d3 ∧ Half (ltOf cmp5) 20 d.size (av + 40) d3) := ⟨S3, permIn_trans _ _ _ 0 d.size HA2.out.2.1 (permIn_mono _ _ av (av + 40) 0 d.size (by omega) (by omega) (by have := HZ.out; omega) hm3.1), half_step (k := q) (by omega) (by have := HAV.out; omega) (by omega) HA2.out.2.2 hm3⟩
                clear S3 hm3 HCC HA2
                go_wp2_with fail
                go_roundg (d.size - (av + 40))
                case measure => omega
                case rel => exact ⟨av + 40, d3, by first | rfl | (congr 1; done) | (congr 1; omega) | (simp; omega), by first | rfl | (congr 1; done) | (congr 1; omega) | (simp; omega), by omega, by omega, ⟨q + 1, by have := HAV.out; omega⟩, HA3.out⟩
              · have hlz : ¬ (av : Int) + 40 ≤ (d.size : Int) := by omega
                have hln : ¬ av + 40 ≤ d.size := hlt
                by_cases hm : av + 20 < d.size
                · have hmz : ((av : Nat) : Int) + 20 < (d.size : Int) := by omega
                  have hmd : decide (((av : Nat) : Int) + 20 < (d.size : Int)) = true := decide_eq_true hmz
                  have C := sym_any (P := Try.prog) laid5 cmp5 swo5 33 #[] eg33 blk off cap d0 w0 R (cmp_lays blk off d0.size w0) (by have := HSZ.out; omega) (d2.size + 1) av (av + 20) d.size d2 wr (by have := HSZ.out; omega) (by have := HSZ.out; omega) HA2.out.1 (by have := HSZ.out; omega) (by have := HSZ.out; omega) (by have := HSZ.out; omega)
                    (half_run1 (bs := 20) (k := q) (by have := HSZ.out; omega) (by have := HAV.out; omega) (by have := HSZ.out; omega) HA2.out.2.2) (half_run2 (bs := 20) (k := q) (by have := HSZ.out; omega) (by have := HAV.out; omega) (by have := HSZ.out; omega) (by have := HSZ.out; omega) HA2.out.2.2)
                  rw [hz2, show ((av + 20 : Nat) : Int) = (av : Int) + 20 by omega] at C
                  have HCC := Lib.hid C
                  have HZ := Lib.hid hz2
                  clear C hz2
                  go_wp2_with fail
                  refine HCC.out.mono ?_
                  rintro e9 w9 ⟨d3, rfl, S3, hm3⟩
                  have HA3 : Aside (SWK enc5 5 w0 blk off d3 w9 ∧ PermIn 0 d.size d d3 ∧ Blocks (ltOf cmp5) 40 d.size d3) := ⟨S3, permIn_trans _ _ _ 0 d.size HA2.out.2.1 (permIn_mono _ _ av d.size 0 d.size (by omega) (by omega) (by have := HZ.out; omega) hm3.1), half_end (bs := 20) (k := q) (by omega) (by have := HAV.out; omega) (by omega) HA2.out.2.2 hm3⟩
                  clear S3 hm3 HCC HA2
                  go_wp2_with fail
                  go_roundg 40
                  case measure => omega
                  case rel => exact ⟨40, 40, d3, by omega, rfl, by omega, HA3.out⟩
                · have hmz : ¬ ((av : Nat) : Int) + 20 < (d.size : Int) := by omega
                  have hmd : decide (((av : Nat) : Int) + 20 < (d.size : Int)) = false := decide_eq_false hmz
                  have HA3 : Aside (SWK enc5 5 w0 blk off d2 wr ∧ PermIn 0 d.size d d2 ∧ Blocks (ltOf cmp5) 40 d.size d2) := ⟨HA2.out.1, HA2.out.2.1, half_rest (bs := 20) (k := q) (by omega) (by have := HAV.out; omega) (by omega) HA2.out.2.2⟩
                  clear HA2 hz2
                  go_wp2_with fail
                  go_roundg 40
                  case measure => omega
                  case rel => exact ⟨40, 40, d2, by omega, rfl, by omega, HA3.out⟩
          · have hbz : (40 : Int) < (d.size : Int) := by omega
            have hbd : decide ((40 : Int) < (d.size : Int)) = true := decide_eq_true hbz
            go_wp2_with fail
            go_loopg [7, 8] (d.size) (fun kx s7 s8 wr => ∃ (av : Nat) (d' : Array VO), s7 = .int .i64 av ∧ s8 = .int .i64 ((av : Int) + 80) ∧ av ≤ d.size ∧ d.size - av ≤ kx ∧ Aside ((∃ q, av = 80 * q) ∧ SWK enc5 5 w0 blk off d' wr ∧ PermIn 0 d.size d d' ∧ Half (ltOf cmp5) 40 d.size av d'))
            case atStart => exact ⟨0, d1, rfl, rfl, by omega, by omega, ⟨0, rfl⟩, HA1.out.1, HA1.out.2.1, half_start HA1.out.2.2⟩
            case round =>
              clear HA1
              obtain ⟨av, d2, rfl, rfl, hq, hkx2, HA0⟩ := hrel
              obtain ⟨q, hav⟩ := HA0.out.1
              have HA2 := Lib.hid HA0.out.2
              have hz2 : d2.size = d.size := HA2.out.2.1.1
              have HAV := Lib.hid hav
              clear hav HA0
              by_cases hlt : av + 80 ≤ d.size
              · have hlz : (av : Int) + 80 ≤ (d.size : Int) := by omega
                have hln : av + 80 ≤ d.size := hlt
                have C := sym_any (P := Try.prog) laid5 cmp5 swo5 33 #[] eg33 blk off cap d0 w0 R (cmp_lays blk off d0.size w0) (by have := HSZ.out; omega) (d2.size + 1) av (av + 40) (av + 80) d2 wr (by have := HSZ.out; omega) (by have := HSZ.out; omega) HA2.out.1 (by have := HSZ.out; omega) (by have := HSZ.out; omega) (by have := HSZ.out; omega)
                  (half_run1 (bs := 40) (k := q) (by have := HSZ.out; omega) (by have := HAV.out; omega) (by have := HSZ.out; omega) HA2.out.2.2) (half_run2 (bs := 40) (k := q) (by have := HSZ.out; omega) (by have := HAV.out; omega) (by have := HSZ.out; omega) (by have := HSZ.out; omega) HA2.out.2.2)
                rw [hz2, show ((av + 80 : Nat) : Int) = (av : Int) + 80 by omega, show ((av + 40 : Nat) : Int) = (av : Int) + 40 by omega] at C
                have HCC := Lib.hid C
                have HZ := Lib.hid hz2
                clear C hz2
                go_wp2_with fail
                refine HCC.out.mono ?_
                rintro e9 w9 ⟨d3, rfl, S3, hm3⟩
                have HA3 : Aside (SWK enc5 5 w0 blk off d3 w9 ∧ PermIn 0 d.size d d3 ∧ Half (ltOf cmp5) 40 d.size (av + 80) d3) := ⟨S3, permIn_trans _ _ _ 0 d.size HA2.out.2.1 (permIn_mono _ _ av (av + 80) 0 d.size (by omega) (by omega) (by have := HZ.out; omega) hm3.1), half_step (k := q) (by omega) (by have := HAV.out; omega) (by omega) HA2.out.2.2 hm3⟩
                clear S3 hm3 HCC HA2
                go_wp2_with fail
                go_roundg (d.size - (av + 80))
                case measure => omega
                case rel => exact ⟨av + 80, d3, by first | rfl | (congr 1; done) | (congr 1; omega) | (simp; omega), by first | rfl | (congr 1; done) | (congr 1; omega) | (simp; omega), by omega, by omega, ⟨q + 1, by have := HAV.out; omega⟩, HA3.out⟩
              · have hlz : ¬ (av : Int) + 80 ≤ (d.size : Int) := by omega
                have hln : ¬ av + 80 ≤ d.size := hlt
                by_cases hm : av + 40 < d.size
                · have hmz : ((av : Nat) : Int) + 40 < (d.size : Int) := by omega
                  have hmd : decide (((av : Nat) : Int) + 40 < (d.size : Int)) = true := decide_eq_true hmz
                  have C := sym_any (P := Try.prog) laid5 cmp5 swo5 33 #[] eg33 blk off cap d0 w0 R (cmp_lays blk off d0.size w0) (by have := HSZ.out; omega) (d2.size + 1) av (av + 40) d.size d2 wr (by have := HSZ.out; omega) (by have := HSZ.out; omega) HA2.out.1 (by have := HSZ.out; omega) (by have := HSZ.out; omega) (by have := HSZ.out; omega)
                    (half_run1 (bs := 40) (k := q) (by have := HSZ.out; omega) (by have := HAV.out; omega) (by have := HSZ.out; omega) HA2.out.2.2) (half_run2 (bs := 40) (k := q) (by have := HSZ.out; omega) (by have := HAV.out; omega) (by have := HSZ.out; omega) (by have := HSZ.out; omega) HA2.out.2.2)
                  rw [hz2, show ((av + 40 : Nat) : Int) = (av : Int) + 40 by omega] at C
                  have HCC := Lib.hid C
                  have HZ := Lib.hid hz2
                  clear C hz2
                  go_wp2_with fail
                  refine HCC.out.mono ?_
                  rintro e9 w9 ⟨d3, rfl, S3, hm3⟩
                  have HA3 : Aside (SWK enc5 5 w0 blk off d3 w9 ∧ PermIn 0 d.size d d3 ∧ Blocks (ltOf cmp5) 80 d.size d3) := ⟨S3, permIn_trans _ _ _ 0 d.size HA2.out.2.1 (permIn_mono _ _ av d.size 0 d.size (by omega) (by omega) (by have := HZ.out; omega) hm3.1), half_end (bs := 40) (k := q) (by omega) (by have := HAV.out; omega) (by omega) HA2.out.2.2 hm3⟩
                  clear S3 hm3 HCC HA2
                  go_wp2_with fail
                  go_roundg 0
                  case measure => omega
                  case rel => exact ⟨80, 80, d3, by omega, rfl, by omega, HA3.out⟩
                · have hmz : ¬ ((av : Nat) : Int) + 40 < (d.size : Int) := by omega
                  have hmd : decide (((av : Nat) : Int) + 40 < (d.size : Int)) = false := decide_eq_false hmz
                  have HA3 : Aside (SWK enc5 5 w0 blk off d2 wr ∧ PermIn 0 d.size d d2 ∧ Blocks (ltOf cmp5) 80 d.size d2) := ⟨HA2.out.1, HA2.out.2.1, half_rest (bs := 40) (k := q) (by omega) (by have := HAV.out; omega) (by omega) HA2.out.2.2⟩
                  clear HA2 hz2
                  go_wp2_with fail
                  go_roundg 0
                  case measure => omega
                  case rel => exact ⟨80, 80, d2, by omega, rfl, by omega, HA3.out⟩
          · omega
        · have hbz : ¬ z < (d.size : Int) := by omega
          go_wp2_with fail
          go_end0
          exact ⟨rfl, d1, HA1.out.1, HA1.out.2.1, blocks_all (by omega) HA1.out.2.2⟩
end Go.Proofs.Ytmcilmmnpolieaa
