/- What admit.Copies answers of any rule, any params and any slice of params (up to 900), and the law's fits. Each theorem's premises are its conditions. -/
import Derived.Test.YtoagdaenbanhlaaAdmitRoom
import Derived.Test.YtoagdaenbanhlaaAdmitChange
import Derived.Deep.CutBlock
import Derived.Deep.CutRange
import Derived.Deep.DeepCutAuto
namespace Go.Proofs.Ytoagdaenbanhlaa
open Go.ChangeShapes Go.WideShapes Go.ChangeAt Go.RowKit Go.Deep

theorem cellsRP {hard : Bool} {c k : Int} {p : P3} {w w' : World} (h : Below ((w.alloc (.cells #[.bool hard, .int .i64 c, .int .i64 k] 23)).alloc (.cells #[.int .i64 p.1, .int .i64 p.2.1, .int .i64 p.2.2] 40)).heap.size ((w.alloc (.cells #[.bool hard, .int .i64 c, .int .i64 k] 23)).alloc (.cells #[.int .i64 p.1, .int .i64 p.2.1, .int .i64 p.2.2] 40)) w') :
    w'.cell? ⟨w.heap.size, 0, none⟩ = some (Value.bool hard) ∧ w'.cell? ⟨w.heap.size, 1, none⟩ = some (Value.int .i64 c) ∧ w'.cell? ⟨w.heap.size, 2, none⟩ = some (Value.int .i64 k) ∧ w'.cell? ⟨w.heap.size + 1, 0, none⟩ = some (Value.int .i64 p.1) ∧ w'.cell? ⟨w.heap.size + 1, 1, none⟩ = some (Value.int .i64 p.2.1) ∧ w'.cell? ⟨w.heap.size + 1, 2, none⟩ = some (Value.int .i64 p.2.2) ∧ w.heap.size < w'.heap.size ∧ w.heap.size + 1 < w'.heap.size := by
  have c0 := (h.cell (p := ⟨w.heap.size, 0, none⟩) (by first | (simp; done) | (simp; omega))).trans (show _ = some (Value.bool hard) by go_simp)
  have c1 := (h.cell (p := ⟨w.heap.size, 1, none⟩) (by first | (simp; done) | (simp; omega))).trans (show _ = some (Value.int .i64 c) by go_simp)
  have c2 := (h.cell (p := ⟨w.heap.size, 2, none⟩) (by first | (simp; done) | (simp; omega))).trans (show _ = some (Value.int .i64 k) by go_simp)
  have c3 := (h.cell (p := ⟨w.heap.size + 1, 0, none⟩) (by first | (simp; done) | (simp; omega))).trans (show _ = some (Value.int .i64 p.1) by go_simp)
  have c4 := (h.cell (p := ⟨w.heap.size + 1, 1, none⟩) (by first | (simp; done) | (simp; omega))).trans (show _ = some (Value.int .i64 p.2.1) by go_simp)
  have c5 := (h.cell (p := ⟨w.heap.size + 1, 2, none⟩) (by first | (simp; done) | (simp; omega))).trans (show _ = some (Value.int .i64 p.2.2) by go_simp)
  exact ⟨c0, c1, c2, c3, c4, c5, cell_lt c0, cell_lt c3⟩
theorem owns_below {w w' : World} {B : Nat} {v : Value} {ps : List P3} (h : Owns w B v ps) (k : Below w.heap.size w w') : Owns w' B v ps :=
  h.kept (row := none) ⟨k.os, k.tape, k.output, k.size, fun i hi _ => k.block i hi⟩ (by
    cases e : v.ownBlock with
    | none => exact .inl rfl
    | some b => exact .inr (fun h => by cases h))
set_option maxRecDepth 100000 in
set_option maxHeartbeats 2000000 in
theorem copies_not (hard : Bool) (c k : Int) (p : P3) (v : Value) (ps : List P3) (w : World) (h : ParamRow w v ps) (hl : ps.length ≤ 900) (ht : testNum hard c k ps ≠ 0) : Calls Try.prog 21 #[.agg #[.bool hard, .int .i64 c, .int .i64 k], .agg #[.int .i64 p.1, .int .i64 p.2.1, .int .i64 p.2.2], v] w (Gives (.tuple #[.int .i64 0, .int .i64 (testNum hard c k ps)]) w) := by
  have HP := Lib.hid (h.below (bel_alloc (bel_alloc (Below.refl w.heap.size w)) : Below w.heap.size w ((w.alloc (.cells #[.bool hard, .int .i64 c, .int .i64 k] 23)).alloc (.cells #[.int .i64 p.1, .int .i64 p.2.1, .int .i64 p.2.2] 40))))
  have TS := Lib.hid (fun w2 (h2 : Below ((w.alloc (.cells #[.bool hard, .int .i64 c, .int .i64 k] 23)).alloc (.cells #[.int .i64 p.1, .int .i64 p.2.1, .int .i64 p.2.2] 40)).heap.size ((w.alloc (.cells #[.bool hard, .int .i64 c, .int .i64 k] 23)).alloc (.cells #[.int .i64 p.1, .int .i64 p.2.1, .int .i64 p.2.2] 40)) w2) => test_any hard c k _ ps w2 (HP.out.below h2) (by omega))
  generalize testNum hard c k ps = T at *
  have e1 : (T == 0) = false := by rw [beq_eq_false_iff_ne]; exact ht
  have e2 : (T != 0) = true := by rw [bne_iff_ne]; exact ht
  clear ht h hl HP
  go_enter Try.func21, Try.ntmps21
  go_wp2_with fail
  refine (TS.out _ (Below.refl _ _)).mono ?_
  rintro e w1 ⟨rfl, b⟩
  have R1 := Lib.hid (show Below ((w.alloc (.cells #[.bool hard, .int .i64 c, .int .i64 k] 23)).alloc (.cells #[.int .i64 p.1, .int .i64 p.2.1, .int .i64 p.2.2] 40)).heap.size ((w.alloc (.cells #[.bool hard, .int .i64 c, .int .i64 k] 23)).alloc (.cells #[.int .i64 p.1, .int .i64 p.2.1, .int .i64 p.2.2] 40)) w1 from by
    refine bel_end ?_ b
    repeat (first | with_reducible exact Below.refl _ _ | with_reducible refine bel_alloc ?_ | with_reducible refine bel_drew ?_))
  clear b
  obtain ⟨c1_0, c1_1, c1_2, c1_3, c1_4, c1_5, l1_0, l1_1⟩ := cellsRP R1.out
  go_wp2_with fail
  go_ret2
  exact ⟨rfl, bel_end (bel_alloc (bel_alloc (Below.refl w.heap.size w))) R1.out⟩
set_option maxRecDepth 100000 in
set_option maxHeartbeats 2000000 in
theorem copies_bad (hard : Bool) (c k : Int) (p : P3) (v : Value) (ps : List P3) (w : World) (h : ParamRow w v ps) (hl : ps.length ≤ 900) (ht : testNum hard c k ps = 0) (hp : ¬ May p) : Calls Try.prog 21 #[.agg #[.bool hard, .int .i64 c, .int .i64 k], .agg #[.int .i64 p.1, .int .i64 p.2.1, .int .i64 p.2.2], v] w (Gives (.tuple #[.int .i64 0, .int .i64 1]) w) := by
  have HP := Lib.hid (h.below (bel_alloc (bel_alloc (Below.refl w.heap.size w)) : Below w.heap.size w ((w.alloc (.cells #[.bool hard, .int .i64 c, .int .i64 k] 23)).alloc (.cells #[.int .i64 p.1, .int .i64 p.2.1, .int .i64 p.2.2] 40))))
  have TS := Lib.hid (fun w2 (h2 : Below ((w.alloc (.cells #[.bool hard, .int .i64 c, .int .i64 k] 23)).alloc (.cells #[.int .i64 p.1, .int .i64 p.2.1, .int .i64 p.2.2] 40)).heap.size ((w.alloc (.cells #[.bool hard, .int .i64 c, .int .i64 k] 23)).alloc (.cells #[.int .i64 p.1, .int .i64 p.2.1, .int .i64 p.2.2] 40)) w2) => test_any hard c k _ ps w2 (HP.out.below h2) (by omega))
  rw [ht] at TS
  have PC := Lib.hid (pcheck_bad p.1 p.2.1 p.2.2 hp)
  unfold paramsBox at PC
  clear ht h hl HP hp
  go_enter Try.func21, Try.ntmps21
  go_wp2_with fail
  refine (TS.out _ (Below.refl _ _)).mono ?_
  rintro e w1 ⟨rfl, b⟩
  have R1 := Lib.hid (show Below ((w.alloc (.cells #[.bool hard, .int .i64 c, .int .i64 k] 23)).alloc (.cells #[.int .i64 p.1, .int .i64 p.2.1, .int .i64 p.2.2] 40)).heap.size ((w.alloc (.cells #[.bool hard, .int .i64 c, .int .i64 k] 23)).alloc (.cells #[.int .i64 p.1, .int .i64 p.2.1, .int .i64 p.2.2] 40)) w1 from by
    refine bel_end ?_ b
    repeat (first | with_reducible exact Below.refl _ _ | with_reducible refine bel_alloc ?_ | with_reducible refine bel_drew ?_))
  clear b
  obtain ⟨c1_0, c1_1, c1_2, c1_3, c1_4, c1_5, l1_0, l1_1⟩ := cellsRP R1.out
  go_wp2_with fail
  refine (PC.out _).mono ?_
  rintro e w2 ⟨rfl, rfl⟩
  go_wp2_with fail
  go_ret2
  exact ⟨rfl, bel_end (bel_alloc (bel_alloc (Below.refl w.heap.size w))) (bel_alloc R1.out)⟩
set_option maxRecDepth 100000 in
set_option maxHeartbeats 2000000 in
theorem copies_ok (hard : Bool) (c k : Int) (p : P3) (v : Value) (ps : List P3) (w : World) (h : ParamRow w v ps) (hl : ps.length ≤ 900) (hn : NilOk v) (ht : testNum hard c k ps = 0) (hp : May p) : Calls Try.prog 21 #[.agg #[.bool hard, .int .i64 c, .int .i64 k], .agg #[.int .i64 p.1, .int .i64 p.2.1, .int .i64 p.2.2], v] w (Gives (.tuple #[.int .i64 (copiesOf hard c k ps p : Nat), .int .i64 0]) w) := by
  have HP := Lib.hid (h.below (bel_alloc (bel_alloc (Below.refl w.heap.size w)) : Below w.heap.size w ((w.alloc (.cells #[.bool hard, .int .i64 c, .int .i64 k] 23)).alloc (.cells #[.int .i64 p.1, .int .i64 p.2.1, .int .i64 p.2.2] 40))))
  have TS := Lib.hid (fun w2 (h2 : Below ((w.alloc (.cells #[.bool hard, .int .i64 c, .int .i64 k] 23)).alloc (.cells #[.int .i64 p.1, .int .i64 p.2.1, .int .i64 p.2.2] 40)).heap.size ((w.alloc (.cells #[.bool hard, .int .i64 c, .int .i64 k] 23)).alloc (.cells #[.int .i64 p.1, .int .i64 p.2.1, .int .i64 p.2.2] 40)) w2) => test_any hard c k _ ps w2 (HP.out.below h2) (by omega))
  rw [ht] at TS
  have PC := Lib.hid (pcheck_ok p.1 p.2.1 p.2.2 hp)
  unfold paramsBox at PC
  have CL := Lib.hid (fun w2 (h2 : Below ((w.alloc (.cells #[.bool hard, .int .i64 c, .int .i64 k] 23)).alloc (.cells #[.int .i64 p.1, .int .i64 p.2.1, .int .i64 p.2.2] 40)).heap.size ((w.alloc (.cells #[.bool hard, .int .i64 c, .int .i64 k] 23)).alloc (.cells #[.int .i64 p.1, .int .i64 p.2.1, .int .i64 p.2.2] 40)) w2) => clone_any _ ps w2 (HP.out.below h2) hn (by omega))
  have TN := Lib.hid (fun (n : Nat) (hn : n < 64) v2 w2 (h2 : ParamRow w2 v2 (ps ++ List.replicate (n + 1) p)) => test_any hard c k v2 _ w2 h2 (by rw [List.length_append, List.length_replicate]; omega))
  obtain ⟨i0, hi1, hz0, hz1, hz2⟩ := info_parts Try.infoParams
  clear ht h hp hn
  go_enter Try.func21, Try.ntmps21
  go_wp2_with fail
  refine (TS.out _ (Below.refl _ _)).mono ?_
  rintro e w1 ⟨rfl, b⟩
  have R1 := Lib.hid (show Below ((w.alloc (.cells #[.bool hard, .int .i64 c, .int .i64 k] 23)).alloc (.cells #[.int .i64 p.1, .int .i64 p.2.1, .int .i64 p.2.2] 40)).heap.size ((w.alloc (.cells #[.bool hard, .int .i64 c, .int .i64 k] 23)).alloc (.cells #[.int .i64 p.1, .int .i64 p.2.1, .int .i64 p.2.2] 40)) w1 from by
    refine bel_end ?_ b
    repeat (first | with_reducible exact Below.refl _ _ | with_reducible refine bel_alloc ?_ | with_reducible refine bel_drew ?_))
  clear b
  obtain ⟨c1_0, c1_1, c1_2, c1_3, c1_4, c1_5, l1_0, l1_1⟩ := cellsRP R1.out
  go_wp2_with fail
  refine (PC.out _).mono ?_
  rintro e w2 ⟨rfl, rfl⟩
  go_wp2_with fail
  refine (CL.out _ (bel_alloc R1.out)).mono ?_
  rintro e w2 ⟨v', rfl, hown, b2⟩
  have HO := Lib.hid hown
  have HB := Lib.hid b2
  clear hown b2 c1_0 c1_1 c1_2 c1_3 c1_4 c1_5 l1_0 l1_1 TS CL PC HP
  go_wp2_with fail
  go_loopw [10, 25] (fun s i wr => ∃ n : Nat, n ≤ 64 ∧ i = .int .i64 n ∧ Owns wr (w1.alloc (.cells #[.int .i64 p.1, .int .i64 p.2.1, .int .i64 p.2.2] 40)).heap.size s (ps ++ List.replicate n p) ∧ Below (w1.alloc (.cells #[.int .i64 p.1, .int .i64 p.2.1, .int .i64 p.2.2] 40)).heap.size (w1.alloc (.cells #[.int .i64 p.1, .int .i64 p.2.1, .int .i64 p.2.2] 40)) wr ∧ copiesOf hard c k ps p = cntFrom hard c k ps p (64 - n) n) (fun _ i _ => 64 - (intOf i).toNat)
  case atStart => exact ⟨0, by omega, rfl, by rw [show ps ++ List.replicate 0 p = ps from List.append_nil ps]; exact HO.out, HB.out, rfl⟩
  case round =>
    obtain ⟨n, hn, rfl, hown, hbw, hcn⟩ := hrel
    have HO1 := Lib.hid hown
    have HB1 := Lib.hid hbw
    have HC := Lib.hid hcn
    have R := Lib.hid (bel_end (bel_alloc R1.out) hbw)
    clear hown hbw hcn HO HB
    obtain ⟨d0, d1, d2, d3, d4, d5, l0, l1⟩ := cellsRP R.out
    by_cases hlt : n < 64
    · have hlt' : (n : Int) < 64 := by omega
      go_upto_region 11 with fail
      go_cut [10] from 28 to 31 (fun s wx => Owns wx (w1.alloc (.cells #[.int .i64 p.1, .int .i64 p.2.1, .int .i64 p.2.2] 40)).heap.size s (ps ++ List.replicate (n + 1) p) ∧ Below (w1.alloc (.cells #[.int .i64 p.1, .int .i64 p.2.1, .int .i64 p.2.2] 40)).heap.size (w1.alloc (.cells #[.int .i64 p.1, .int .i64 p.2.1, .int .i64 p.2.2] 40)) wx)
      case first =>
        have hln : (ps ++ List.replicate n p).length + 1 = (ps ++ List.replicate (n + 1) p).length := by rw [List.length_append, List.length_append, List.length_replicate, List.length_replicate]; omega
        go_wp2_with (at_builtin; (refine wpList_append_own _ rfl _ _ 24 rfl (w1.alloc (.cells #[.int .i64 p.1, .int .i64 p.2.1, .int .i64 p.2.2] 40)).heap.size 40 i0 (.agg #[.int .i64 0, .int .i64 0, .int .i64 0]) 3 24 Try.underlying24 hi1 hz0 hz1 hz2 rfl (by decide) _ _ _ rfl (HO1.out.alloc _) ⟨wr.heap.size, 0, none⟩ 1 1 (pcells [p]) rfl rfl (fun j u hj => by obtain ⟨i', c', hi', hc', rfl, rfl⟩ := pcells_at hj; obtain rfl : i' = 0 := Nat.lt_one_iff.1 hi'; match c', hc' with | 0, _ => exact (by simp [Addr.add, pc]) | 1, _ => exact (by simp [Addr.add, pc]) | 2, _ => exact (by simp [Addr.add, pc])) (pcells_one _) (by unfold maxLen; rw [List.length_append, List.length_replicate]; omega) (by rw [List.length_append, List.length_replicate]; omega) (Nat.le_trans HB1.out.size (by simp)) ?_); intro v2 w3 hown hgrow _)
        rw [← pcells_append, hln, rep_snoc] at hown
        go_meet
        exact ⟨hown, (HB1.out.alloc HB1.out.size _).grown hgrow (Nat.le_trans HB1.out.size (by simp)) (own_block HO1.out)⟩
      case rest =>
      obtain ⟨hown, hbw⟩ := hcut
      have HO2 := Lib.hid hown
      have HB2 := Lib.hid hbw
      have R2 := Lib.hid (bel_end (bel_alloc R1.out) hbw)
      clear hown hbw HO1 HB1 R d0 d1 d2 d3 d4 d5 l0 l1
      obtain ⟨d0, d1, d2, d3, d4, d5, l0, l1⟩ := cellsRP R2.out
      have T := Lib.hid (TN.out n hlt _ _ (owns_row HO2.out).1)
      by_cases hT : testNum hard c k (ps ++ List.replicate (n + 1) p) = 0
      · have HS := Lib.hid (cnt_step hlt hT)
        rw [hT] at T
        clear hT
        go_wp2_with fail
        refine T.out.mono ?_
        rintro e w3 ⟨rfl, b3⟩
        have HO3 := Lib.hid (owns_below HO2.out b3)
        have HB3 := Lib.hid (bel_end HB2.out b3)
        clear b3 HO2 HB2 R2 d0 d1 d2 d3 d4 d5 l0 l1
        go_wp2_with fail
        go_roundw
        case rel => exact ⟨n + 1, by omega, by simp, HO3.out, HB3.out, by rw [HC.out, HS.out]⟩
        case measure => first | (simp [intOf]; done) | (simp [intOf]; omega)
      · have HS := Lib.hid (cnt_stop hlt hT)
        generalize testNum hard c k (ps ++ List.replicate (n + 1) p) = t at *
        have e1 : (t == 0) = false := by rw [beq_eq_false_iff_ne]; exact hT
        have e2 : (t != 0) = true := by rw [bne_iff_ne]; exact hT
        clear hT
        go_wp2_with fail
        refine T.out.mono ?_
        rintro e w3 ⟨rfl, b3⟩
        have HE := Lib.hid (bel_end (bel_alloc (bel_alloc (Below.refl w.heap.size w))) (bel_end (bel_alloc R1.out) (bel_end HB2.out b3)))
        clear b3
        go_wp2_with fail
        go_ret2
        exact ⟨ret2 (by rw [HC.out, HS.out]; rfl) rfl, HE.out⟩
    · obtain rfl : n = 64 := by omega
      have HE := Lib.hid (bel_end (bel_alloc (bel_alloc (Below.refl w.heap.size w))) R.out)
      go_wp2_with fail
      go_ret2
      exact ⟨ret2 (by rw [HC.out]; rfl) rfl, HE.out⟩
/-- what Copies hands back. -/
def copiesVal (hard : Bool) (c k : Int) (ps : List P3) (p : P3) : Value :=
  if testNum hard c k ps = 0 then (if May p then .tuple #[.int .i64 (copiesOf hard c k ps p : Nat), .int .i64 0] else .tuple #[.int .i64 0, .int .i64 1]) else .tuple #[.int .i64 0, .int .i64 (testNum hard c k ps)]
theorem copies_any (hard : Bool) (c k : Int) (p : P3) (v : Value) (ps : List P3) (w : World) (h : ParamRow w v ps) (hl : ps.length ≤ 900) (hn : NilOk v) : Calls Try.prog 21 #[.agg #[.bool hard, .int .i64 c, .int .i64 k], .agg #[.int .i64 p.1, .int .i64 p.2.1, .int .i64 p.2.2], v] w (Gives (copiesVal hard c k ps p) w) := by
  unfold copiesVal
  by_cases ht : testNum hard c k ps = 0
  · rw [if_pos ht]
    by_cases hp : May p
    · rw [if_pos hp]; exact copies_ok hard c k p v ps w h hl hn ht hp
    · rw [if_neg hp]; exact copies_bad hard c k p v ps w h hl ht hp
  · rw [if_neg ht]; exact copies_not hard c k p v ps w h hl ht
end Go.Proofs.Ytoagdaenbanhlaa
