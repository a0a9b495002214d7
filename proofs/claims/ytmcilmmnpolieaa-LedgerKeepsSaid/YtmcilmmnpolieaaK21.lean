/- The iterator of a domain's members, in a loop whose body turns one block. What ledger.params answers: the params of a domain's members but one, and of what it owes. Each theorem's premises are its conditions. -/
import Derived.Test.YtmcilmmnpolieaaK05
import Derived.Test.YtmcilmmnpolieaaK10
import Derived.Test.YtmcilmmnpolieaaK20
import Derived.RangeFuncBound
import Derived.RangeFuncCalls
import Derived.RangeFuncLeaves
import Derived.RangeFuncBox
import Derived.Shelf.RegionOpen
import Derived.OwnWalkIn
import Derived.TacticsInMore
import Derived.LoopNIn
import Derived.LoopIn
import Derived.Scope
import Derived.ControlIn
/- The iterator of a domain's members, in a loop whose body turns one block. Each theorem's premises are its conditions. -/
namespace Go.Proofs.Ytmcilmmnpolieaa.SeqG
open Go.RowKit Go.Shelf Go.Deep
attribute [local go_sem] Oper.semAt_some

theorem wpListIn_load_part {F : Fence} {n : Nat} {P : Program} {ops : Array Oper} {rest : List Oper} {o : Oper} {a : Act} {w : World} {Q : Exit → Act → World → Prop} (hgd : o.guard = none) (ty : TypeId) (x : Operand) (ho : o.op = .load ty x)
    (g off : Nat) (hx : a.eval x = .pointer (some ⟨g, off, none⟩)) (cs : Array Value) (d : TypeDesc)
    (hu : P.underlying ty = some d) (hd : (match d with | .struct _ | .array _ _ => true | _ => false) = true) (hi : (P.info? ty).map (·.size) = some cs.size) (hc : ∀ j v, cs.toList[j]? = some v → w.cell? ⟨g, off + j, none⟩ = some v)
    (h : wpListIn F n P ops Q rest (a.put o.dst (.agg cs)) w) : wpListIn F n P ops Q (o :: rest) a w :=
  wpListIn_plain hgd fun _ hK => by
    unfold Oper.wpIn
    refine ⟨?_, ?_⟩
    · simp [Oper.about, ho]
    · rw [Oper.semAt_plain F _ _ (by rw [ho]; intro c hc'; cases hc')]
      unfold execOp
      simp only [ho, hx, Instr.loadAt, Instr.sureAddr, Sem.run_bind, Sem.run_pure, Result.andThen_ok, run_loadVar_part w g off ty cs d hu hd hi hc]
      exact hK _ _ h
/-- a member: its number, and its params. -/
abbrev NP := Nat × P3
def outM (x : NP) : Array Value := #[.int .i64 (x.1 : Nat), .agg #[.int .i64 x.2.1, .int .i64 x.2.2.1, .int .i64 x.2.2.2]]
def mlist (f : Nat → Option P3) (n : Nat) : List NP := (List.range n).filterMap fun i => (f i).map fun p => (i, p)
theorem mlist_succ (f : Nat → Option P3) (n : Nat) : mlist f (n + 1) = mlist f n ++ (match f n with | some p => [(n, p)] | none => []) := by
  unfold mlist
  rw [List.range_succ, List.filterMap_append]
  cases h : f n <;> simp [h]
theorem mlist_le (f : Nat → Option P3) (n : Nat) : (mlist f n).length ≤ n := by
  unfold mlist
  have := List.length_filterMap_le (fun i => (f i).map fun p => (i, p)) (List.range n)
  rwa [List.length_range] at this

set_option maxRecDepth 100000 in
set_option maxHeartbeats 4000000 in
theorem mem1 (M l A : Nat) (f : Nat → Option P3) (w : World) (hA : AllUpto w A A f 64) (hM : M < A) (W : World) (hW : Bel2 M w.heap.size w W) (J Jx : List NP → World → Prop)
    (hY : ∀ pre x U, J pre U → pre.length < 64 → YieldAt Fence.wide (5 - 1) Try.prog l (outM x) U fun e V => (e = .returned (.bool true) ∧ J (pre ++ [x]) V ∧ Bel2 M w.heap.size U V) ∨ (e = .returned (.bool false) ∧ Jx (pre ++ [x]) V)) (h0 : J [] W) :
    CallsIn Fence.wide 5 Try.prog 44 #[.func (.yield l) #[] #[], .pointer (some ⟨A, 0, none⟩)] W fun e V => (∃ v, e = .returned v) ∧ ((∃ zs, zs = mlist f 64 ∧ J zs V) ∨ ∃ pre, True ∧ Jx pre V) := by
  obtain ⟨gv, hgv⟩ := choose_lt (α := Value) (n := 64) (p := fun j v => w.cell? ⟨A, j, none⟩ = some v ∧ (f j = none → v = .pointer none) ∧ ∀ q, f j = some q → ∃ m, v = ptr m ∧ A < m ∧ m < w.heap.size ∧ ParamAt w m 1 q) (fun j hj => by
    cases hf : f j with
    | none => exact ⟨_, hA.cell j hj (.inr hf), fun _ => rfl, fun q hq => by cases hq⟩
    | some p =>
      obtain ⟨m, m1, m2, m3, m4⟩ := hA.mem j hj hj p hf
      refine ⟨_, m3, ?_, ?_⟩
      · intro h; cases h
      · intro q hq; cases hq; exact ⟨m, rfl, m1, m2, m4⟩)
  have HX : Hid (∀ j v, (cells64 gv).toList[j]? = some v → W.cell? ⟨A, 0 + j, none⟩ = some v) := fun j v hv => by
    obtain ⟨hj, rfl⟩ := cells64_get hv
    rw [Nat.zero_add]
    exact (World.cell?_of_block (hW.block A hA.lt (by omega))).trans (hgv j hj).1
  have hi := Try.info64
  have hcs := cells64_size gv
  rw [← hcs] at hi
  have HI := Lib.hid hi
  have HG := Lib.hid (fun j (hj : j < 64) => cells64_at gv hj)
  have HGV := Lib.hid hgv
  have HMA := Lib.hid hM
  generalize cells64 gv = cs at *
  have HJ := Lib.hid hY
  clear hY hgv hi hcs hA
  refine callsIn_of_wp Try.func44 rfl trivial ?_ rfl
  simp only [Try.ntmps44, List.size_toArray, List.length_cons, List.length_nil, Nat.reduceAdd, Nat.reduceSub, Array.replicate_succ, Array.replicate_zero, List.push_toArray, List.append_toArray, List.nil_append, List.cons_append]
  gi_wp2_with (refine wpListIn_load_part rfl 73 _ rfl A 0 rfl cs _ Try.underlying73 rfl HI.out HX.out ?_)
  gi_loopw [6] (fun i wr => ∃ k : Nat, k ≤ 64 ∧ i = .int .i64 k ∧ J (mlist f k) wr ∧ Bel2 M w.heap.size w wr) (fun i _ => 64 - (intOf i).toNat)
  case atStart => exact ⟨0, Nat.zero_le _, rfl, h0, hW⟩
  case round =>
    obtain ⟨k, hk, rfl, hJs, hnx⟩ := hrel
    have HK := Lib.hid hJs
    have HW := Lib.hid hnx
    have hsz := hnx.size
    clear hJs hnx
    by_cases hlt : k < 64
    · have hltz : (k : Int) < 64 := by omega
      have hci := HG.out k hlt
      have hix := run_index_row (P := Try.prog) 73 69 64 cs k (gv k)
      replace hix := fun w2 => hix w2 Try.underlying73 (Try.sizeOf69 w2) (Try.isAgg69 w2) hlt hci
      obtain ⟨_, hn, hs⟩ := HGV.out k hlt
      have hml := mlist_succ f k
      cases hf : f k with
      | none =>
        rw [hn hf] at hix
        rw [hf, List.append_nil] at hml
        have HMM := Lib.hid hml
        clear hci hn hs hf hml
        gi_wp2
        refine ⟨fun f hf => (by cases hf), ?_⟩
        gi_wp2
        go_roundw
        case rel => exact ⟨k + 1, by omega, by simp, by rw [HMM.out]; exact HK.out, HW.out⟩
        case measure => first | (simp [intOf]; done) | (simp [intOf]; omega)
      | some p =>
        obtain ⟨m, hm, hAm, hmn, hp⟩ := hs p hf
        rw [hm] at hix
        unfold ptr at hix
        rw [hf] at hml
        have hmM : m ≠ M := by have := HMA.out; omega
        obtain ⟨q0, q1, q2⟩ := hp.same' (HW.out.block m hmn hmM)
        have lm : m < wr.heap.size := by omega
        have HMM := Lib.hid hml
        have HL : Hid ((mlist f k).length < 64) := Nat.lt_of_le_of_lt (mlist_le f k) hlt
        have hV : Hid (∀ U, J (mlist f k) U → YieldAt Fence.wide (5 - 1) Try.prog l #[.int .i64 (k : Nat), .agg #[.int .i64 p.1, .int .i64 p.2.1, .int .i64 p.2.2]] U fun e V => (e = .returned (.bool true) ∧ J (mlist f (k + 1)) V ∧ Bel2 M w.heap.size U V) ∨ (e = .returned (.bool false) ∧ Jx (mlist f (k + 1)) V)) := fun U h => by
          rw [HMM.out]
          exact HJ.out _ (k, p) U h HL.out
        obtain ⟨p1, p2, p3⟩ := p
        simp only [Nat.reduceAdd] at q0 q1 q2
        clear hci hn hs hf hml hm hp HMM HL
        obtain ⟨fn, tmps, assign, body, hy, hR⟩ := hV.out _ HK.out
        clear hV
        gi_wp2
        refine hR.mono ?_
        rintro e w2 (⟨rfl, hJ2, hk2⟩ | ⟨rfl, hJx2⟩)
        · have HJ2 := Lib.hid hJ2
          have HB2 := Lib.hid hk2
          clear hJ2 hk2
          gi_wp2
          go_roundw
          case rel => exact ⟨k + 1, by omega, by simp, HJ2.out, HW.out.trans HB2.out⟩
          case measure => first | (simp [intOf]; done) | (simp [intOf]; omega)
        · have HJ2 := Lib.hid hJx2
          clear hJx2
          gi_wp2
          refine bodyPost_ret (results_none rfl _ _ _) rfl ?_
          exact ⟨⟨_, rfl⟩, .inr ⟨_, trivial, HJ2.out⟩⟩
    · obtain rfl : k = 64 := by omega
      gi_wp2
      go_end0
      exact ⟨⟨_, rfl⟩, .inl ⟨_, rfl, HK.out⟩⟩
theorem mem_handsM (M A : Nat) (f : Nat → Option P3) (w : World) (hA : AllUpto w A A f 64) (hM : M < A) (W : World) (hW : Bel2 M w.heap.size w W) :
    HandsM M Try.prog 44 #[.pointer (some ⟨A, 0, none⟩)] outM w.heap.size (fun zs _ => zs = mlist f 64) (fun _ => True) 64 W := by
  intro l J Jx W2 hW2 _ hY h0
  exact mem1 M l A f w hA hM W2 (hW.trans hW2) J Jx hY h0
end Go.Proofs.Ytmcilmmnpolieaa.SeqG
/- What ledger.params answers: the params of a domain's members but one, and of what it owes. Each theorem's premises are its conditions. -/
namespace Go.Proofs.Ytmcilmmnpolieaa.SeqG
open Go.RowKit Go.Shelf Go.Deep
attribute [local go_sem] Oper.semAt_some

theorem others_of {U V : World} (h : Below U.heap.size U V) : KeepsOthers U V := ⟨h.size, fun k _ hk _ => (h.block k (Array.getElem?_eq_some_iff.1 hk).1).trans hk⟩
theorem put_same {U : World} {l k : Nat} {o o' : Obj} (hl : U.heap[l]? = some o) (hc : o.isCells = false) (hk : ∃ v, U.cell? ⟨k, 0, none⟩ = some v) : Same U (U.putObj l o') k := by
  refine World.putObj_heap_other fun e => ?_
  subst e
  obtain ⟨v, hv⟩ := hk
  simp only [World.cell?, hl] at hv
  cases o <;> simp_all [Obj.isCells]
theorem put_cells {U : World} {l k : Nat} {o o' : Obj} {cs : Array Value} {t : TypeId} {fr : Nat × Nat} (hl : U.heap[l]? = some o) (hc : o.isCells = false) (hk : U.heap[k]? = some (.cells cs t fr)) : Same U (U.putObj l o') k := by
  refine World.putObj_heap_other fun e => ?_
  subst e
  rw [hl] at hk
  cases hk
  cases hc
theorem own_put {U : World} {B e s n : Nat} {v : Value} {xs : List Value} {l : Nat} {o o' : Obj} (h : U.ownsRow B e s v n xs) (hl : U.heap[l]? = some o) (hc : o.isCells = false) : (U.putObj l o').ownsRow B e s v n xs := by
  refine own_same h fun b hb => ?_
  obtain ⟨_, ⟨rfl, _⟩ | ⟨g, cap, cur, rfl, _, hg, _⟩⟩ := h
  · cases hb
  · cases hb; exact put_cells hl hc hg
theorem own_base {U : World} {B B' e s n : Nat} {v : Value} {xs : List Value} (h : U.ownsRow B e s v n xs) (hB : B' ≤ B) : U.ownsRow B' e s v n xs := by
  obtain ⟨h0, ⟨rfl, h1⟩ | ⟨g, cap, cur, rfl, h1, h2⟩⟩ := h
  · exact ⟨h0, .inl ⟨rfl, h1⟩⟩
  · exact ⟨h0, .inr ⟨g, cap, cur, rfl, Nat.le_trans hB h1, h2⟩⟩
/-- the box M holds a slice of its own, of the params ps, in a block from n on. -/
structure BoxP (n M : Nat) (v : Value) (ps : List P3) (U : World) : Prop where
  cell : U.cell? ⟨M, 0, none⟩ = some v
  froz : U.frozen? ⟨M, 0, none⟩ = false
  own : Owns U n v ps
  lt : M < n
theorem BoxP.grown {n M : Nat} {v : Value} {ps : List P3} {U V : World} (h : BoxP n M v ps U) (k : Below U.heap.size U V) : BoxP n M v ps V :=
  ⟨(k.cell (cell_lt h.cell)).trans h.cell, (k.frozen (cell_lt h.cell)).trans h.froz, own_same h.own fun b hb => k.block b (h.own.lt b hb).2, h.lt⟩
theorem BoxP.put {n M : Nat} {v : Value} {ps : List P3} {U : World} {l : Nat} {o o' : Obj} (h : BoxP n M v ps U) (hl : U.heap[l]? = some o) (hc : o.isCells = false) : BoxP n M v ps (U.putObj l o') :=
  ⟨((put_same hl hc ⟨_, h.cell⟩).cell 0).trans h.cell, ((put_same hl hc ⟨_, h.cell⟩).froz 0).trans h.froz, own_put h.own hl hc, h.lt⟩
theorem own_slice {U : World} {B e size k : Nat} {v : Value} {xs : List Value} (h : U.ownsRow B e size v k xs) : ∃ a n c, v = .slice a n c := by
  obtain ⟨_, ⟨rfl, _⟩ | ⟨g, cap, cur, rfl, _⟩⟩ := h <;> exact ⟨_, _, _, rfl⟩
theorem new_row3 (p : P3) (U : World) : ∀ j u, (pcells [p])[j]? = some u → (U.alloc (.cells #[.int .i64 p.1, .int .i64 p.2.1, .int .i64 p.2.2] 24)).cell? ((Addr.mk U.heap.size 0 none).add j) = some u := by
  intro j u hj
  have e : (Addr.mk U.heap.size 0 none).add j = ⟨U.heap.size, j, none⟩ := by unfold Addr.add; split <;> simp_all
  rw [e, cell_new]
  simpa [pcells, pc] using hj
theorem app_mid {W2 w3 : World} {v : Value} {ps : List P3} {n M : Nat} (h : BoxP n M v ps W2) (hg : W2.grownBy w3 v.ownBlock) : w3.cell? ⟨M, 0, none⟩ = some v ∧ w3.frozen? ⟨M, 0, none⟩ = false := by
  have hlt := cell_lt h.cell
  have hne : some M ≠ v.ownBlock := fun e => by have := (h.own.lt _ e.symm).1; have := h.lt; omega
  exact ⟨(World.cell?_of_block (hg.block _ hlt hne)).trans h.cell, (World.frozen?_of_block (hg.block _ hlt hne)).trans h.froz⟩
/-- behind an append whose slice goes into the box. -/
theorem app_end {W W2 w3 : World} {v v' : Value} {ps : List P3} {p : P3} {n M : Nat} (hbox : BoxP n M v ps W) (h2 : Below W.heap.size W W2) (hn : n ≤ W.heap.size)
    (ho : w3.ownsRow n 24 3 v' (ps.length + 1) (pcells ps ++ pcells [p])) (hg : W2.grownBy w3 v.ownBlock) :
    KeepsOthers W (w3.setCell ⟨M, 0, none⟩ v') ∧ Bel2 M n W (w3.setCell ⟨M, 0, none⟩ v') ∧ BoxP n M v' (ps ++ [p]) (w3.setCell ⟨M, 0, none⟩ v') := by
  have hbox2 := hbox.grown h2
  have hlt := cell_lt hbox2.cell
  have hne : ∀ k, v.ownBlock = some k → n ≤ k := fun k e => (hbox2.own.lt k e).1
  have hMn := hbox.lt
  obtain ⟨c3, f3⟩ := app_mid hbox2 hg
  have ho' : Owns w3 n v' (ps ++ [p]) := by
    show w3.ownsRow _ _ _ _ _ _
    rw [pcells_append, List.length_append]
    exact ho
  refine ⟨((others_of h2).trans (KeepsOthers.of_grownBy hg ?_)).trans (KeepsOthers.setCell _ _ _), ⟨hg.os.trans h2.os, hg.tape.trans h2.tape, hg.output.trans h2.output, ?_, fun k hk hkM => ?_⟩, ⟨?_, ?_, own_same ho' fun b hb => ?_, hMn⟩⟩
  · intro j o hj hoj
    obtain ⟨_, ⟨rfl, _⟩ | ⟨g, cap, cur, rfl, _, hgb, _⟩⟩ := hbox2.own
    · cases hj
    · have e : g = j := by simpa [Value.ownBlock] using hj
      subst e
      rw [hgb] at hoj
      cases hoj
      rfl
  · rw [World.size_setCell]; exact Nat.le_trans h2.size hg.size
  · rw [Below.heap_setCell _ _ _ _ hkM, hg.block k (by have := h2.size; omega) (fun e => by have := hne k e.symm; omega), h2.block k (by omega)]
  · exact World.cell?_setCell_same _ _ _ c3
  · rw [World.frozen?_setCell]; exact f3
  · have := (ho'.lt b hb).1
    exact Below.heap_setCell _ _ _ _ (by simp only; omega)
theorem Bel2.below {M B : Nat} {U V : World} {C : Nat} (h : Bel2 M B U V) (hC : C ≤ B) (hM : C ≤ M) : Below C U V := ⟨h.os, h.tape, h.output, h.size, fun k hk => h.block k (by omega) (by omega)⟩

/-- the params of those that are not the one. -/
def butOf (but : Int) (ys : List NP) : List P3 := (ys.filter fun x => decide ((x.1 : Int) ≠ but)).map (·.2)
theorem butOf_snoc (but : Int) (pre : List NP) (x : NP) : butOf but (pre ++ [x]) = butOf but pre ++ (if (x.1 : Int) = but then [] else [x.2]) := by
  unfold butOf
  rw [List.filter_append, List.map_append]
  by_cases h : (x.1 : Int) = but <;> simp [h]
theorem butOf_le (but : Int) (ys : List NP) : (butOf but ys).length ≤ ys.length := by
  unfold butOf
  rw [List.length_map]
  exact List.length_filter_le _ _
theorem butOf_members (st : LS) (d : Nat) (but : Int) : ∀ n, butOf but (mlist (ofD st d) n) = members st d but n
  | 0 => rfl
  | n + 1 => by
    rw [mlist_succ, members_succ]
    have ih := butOf_members st d but n
    cases hs : st.srv n with
    | none =>
      have e1 : ofD st d n = none := by unfold ofD; rw [hs]
      have e2 : inD st d but n = none := by unfold inD; rw [hs]
      rw [e1, e2]
      simp only [List.append_nil]
      exact ih
    | some s =>
      obtain ⟨d', p⟩ := s
      by_cases hd : d' = d
      · have e1 : ofD st d n = some p := by unfold ofD; rw [hs]; simp [hd]
        rw [e1]
        simp only
        rw [butOf_snoc]
        by_cases hb : (n : Int) = but
        · have e2 : inD st d but n = none := by unfold inD; rw [hs]; simp [hb]
          rw [e2, if_pos hb]
          exact congrArg (· ++ []) ih
        · have e2 : inD st d but n = some p := by unfold inD; rw [hs]; simp [hd, hb]
          rw [e2, if_neg hb]
          exact congrArg (· ++ [p]) ih
      · have e1 : ofD st d n = none := by unfold ofD; rw [hs]; simp; omega
        have e2 : inD st d but n = none := by unfold inD; rw [hs]; simp [hd]
        rw [e1, e2]
        simp only [List.append_nil]
        exact ih
theorem bel2_put {M B l : Nat} {U V : World} {o : Obj} (h : Bel2 M B U V) (hl : B ≤ l) : Bel2 M B U (V.putObj l o) := h.trans (Bel2.of (below_put hl))
set_option maxRecDepth 100000 in
set_option maxHeartbeats 4000000 in
theorem params_any {w : World} {L : Lay} {st : LS} (h : LAt w L st) (d : Nat) (hd : d < st.nd) (hl : (L.ol d).length ≤ 900) (but : Int) :
    Calls Try.prog 38 #[.pointer (some ⟨L.g, 0, none⟩), .int .i64 d, .int .i64 but] w fun e w' => ∃ v, e = .returned v ∧ Owns w' w.heap.size v (members st d but 64 ++ (L.ol d).map (·.p)) ∧ Below w.heap.size w w' := by
  obtain ⟨i0, hi, hz0, hz1, hz2⟩ := info_parts Try.infoParams
  have hB0 := bel_alloc (bel_alloc (Below.refl w.heap.size w) (o := .cells #[.int .i64 but] 3)) (o := .cells #[.slice none 0 0] 50)
  have ML := Lib.hid (callsIn_wide (n := 5).2 (members_any (h.below hB0) d))
  have HL := Lib.hid h
  have HBM := Lib.hid (butOf_members st d but 64)
  refine (callsIn_wide (n := 6)).1 ?_
  refine callsIn_of_wp_marks Try.func38 rfl trivial ?_ rfl
  simp only [Try.ntmps38, List.size_toArray, List.length_cons, List.length_nil, Nat.reduceAdd, Nat.reduceSub, Array.replicate_succ, Array.replicate_zero, List.push_toArray, List.append_toArray, List.nil_append, List.cons_append]
  obtain ⟨g, hg⟩ : ∃ g, g = L.g := ⟨_, rfl⟩
  rw [← hg] at ML ⊢
  have HGG := Lib.hid hg
  have HB0 := Lib.hid hB0
  have HDD := Lib.hid hd
  have HLL := Lib.hid hl
  clear h hg hB0 hd hl
  gi_wp2_with (refine ⟨trivial, ?_⟩; gi_at_call 24; refine ML.out.mono ?_; rintro e w1 ⟨rfl, hall, hb⟩)
  simp only [World.size_alloc] at hall hb
  have hs1 : w.heap.size + 1 + 1 ≤ w1.heap.size := by have := hb.size; simp at this; exact this
  have HB1 : Hid (Below w.heap.size w w1) := Lib.hid (HB0.out.trans (hb.mono (by omega)))
  have y0 := (hb.cell (p := ⟨w.heap.size, 0, none⟩) (by simp only; omega)).trans (show _ = some (Value.int .i64 but) by go_simp)
  have c0 := (hb.cell (p := ⟨w.heap.size + 1, 0, none⟩) (by simp only; omega)).trans (show _ = some (Value.slice none 0 0) by go_simp)
  have f0 := (hb.frozen (p := ⟨w.heap.size + 1, 0, none⟩) (by simp only; omega)).trans (show _ = false by go_simp)
  have HBX : Hid (BoxP w1.heap.size (w.heap.size + 1) (.slice none 0 0) [] w1) := ⟨c0, f0, own_nil _ _, by omega⟩
  have HH := Lib.hid (fun W hW => mem_handsM (w.heap.size + 1) (w.heap.size + 1 + 1) (ofD st d) w1 hall (by omega) W hW)
  have HY := Lib.hid y0
  clear hall hb ML c0 f0 y0
  gi_wp2
  refine loop_handsM (M := w.heap.size + 1) (B := w1.heap.size) (w0 := w1) (S := fun xs _ => xs = mlist (ofD st d) 64) (Sp := fun _ => True) (N := 64) rfl (fun _ _ => rfl) (HH.out _ (Bel2.of (Below.refl _ _))) (Bel2.of (Below.refl _ _)) (Nat.le_refl _) (fun _ => rfl)
    (fun ys W => (∃ v, BoxP w1.heap.size (w.heap.size + 1) v (butOf but ys) W) ∧ Bel2 (w.heap.size + 1) w1.heap.size w1 W) (fun _ _ => False)
    (fun ys U V h k => ⟨⟨_, h.1.choose_spec.grown k⟩, h.2.trans (Bel2.of (k.mono h.2.size))⟩)
    (fun ys U l o o' h hl hc hle => ⟨⟨_, h.1.choose_spec.put hl hc⟩, bel2_put h.2 hle⟩)
    (fun ys U l o o' h => h.elim)
    (fun ys U l o o' h _ _ _ => h)
    ⟨⟨_, HBX.out⟩, Bel2.of (Below.refl _ _)⟩
    (fun x U => { tmps := #[.pointer (some ⟨g, 0, none⟩), .int .i64 d, .int .i64 but, undef, undef, .pointer (some ⟨w.heap.size, 0, none⟩), .slice none 0 0, .pointer (some ⟨w.heap.size + 1, 0, none⟩), .int .i64 (x.1 : Nat), .pointer (some ⟨U.heap.size, 0, none⟩), undef, undef, .pointer (some ⟨g, 0, none⟩), .int .i64 d, .func (.func 44) #[] #[.pointer (some ⟨w.heap.size + 1 + 1, 0, none⟩)], .int .i64 (x.1 : Nat), .agg #[.int .i64 x.2.1, .int .i64 x.2.2.1, .int .i64 x.2.2.2], undef, undef, undef, undef, undef, undef, undef, undef, undef, undef, undef, undef, undef, undef, undef, undef, undef, undef, undef, undef, undef, undef, undef, undef, undef, undef, undef, undef, undef], defers := [] }) (fun x U => U.alloc (.cells #[.int .i64 x.2.1, .int .i64 x.2.2.1, .int .i64 x.2.2.2] 24)) (fun x U => bel_alloc (Below.refl _ _))
    (fun x U0 U => U0.heap.size < U.heap.size ∧ ParamAt U U0.heap.size 0 x.2) (fun x U => ⟨by simp, by rw [cell_new]; rfl, by rw [cell_new]; rfl, by rw [cell_new]; rfl⟩) (fun x U0 U l o o' h hl hc => ⟨by simpa using h.1, h.2.same' (put_same hl hc ⟨.int .i64 x.2.1, h.2.1⟩)⟩) ?takes ?rounds ?all ?some_
  case takes =>
    intro l x W K hK
    unfold outM
    gi_wp2
    exact hK
  case rounds =>
    rintro l pre x U0 W ⟨⟨v, hbox⟩, hB⟩ ⟨l3, q0, q1, q2⟩ hN
    generalize U0.heap.size = B3 at *
    obtain ⟨i, p⟩ := x
    have hsn := Lib.hid (butOf_snoc but pre (i, p))
    have hle := butOf_le but pre
    have hlen : (butOf but pre).length < 64 := by omega
    have y1 := (World.cell?_of_block (hB.block w.heap.size (by omega) (by omega))).trans HY.out
    have c0 := hbox.cell
    have f0 := hbox.froz
    have HO := Lib.hid hbox
    have HB := Lib.hid hB
    have hsz := hB.size
    obtain ⟨a, n, c, rfl⟩ := own_slice hbox.own
    simp only [Nat.reduceAdd] at q0 q1 q2
    have l0 : w.heap.size < W.heap.size := by omega
    have l1 : w.heap.size + 1 < W.heap.size := by omega
    clear hbox hB hle
    refine wpIn_block ?_
    by_cases hib : (i : Int) = but
    · have d1 : ((i : Int) != but) = false := by rw [bne_eq_false_iff_eq]; exact hib
      have e1 : Hid (butOf but (pre ++ [(i, p)]) = butOf but pre) := by show _ = _; rw [hsn.out, if_pos hib, List.append_nil]
      clear hib
      gi_wp2
      refine ⟨KeepsFrom.refl _ _, Bel2.of (Below.refl _ _), ⟨.slice a n c, ?_⟩, HB.out⟩
      rw [e1.out]
      exact HO.out
    · have d1 : ((i : Int) != but) = true := by rw [bne_iff_ne]; exact hib
      have e1 : Hid (butOf but (pre ++ [(i, p)]) = butOf but pre ++ [p]) := by show _ = _; rw [hsn.out, if_neg hib]
      clear hib
      generalize butOf but pre = ps at *
      gi_wp2_with (gi_at_builtin; (refine wpListIn_append_own _ rfl _ _ 50 rfl w1.heap.size 24 i0 (.agg #[.int .i64 0, .int .i64 0, .int .i64 0]) 3 24 Try.underlying50 hi hz0 hz1 hz2 rfl (by decide) _ _ _ rfl (HO.out.own.alloc _) ⟨W.heap.size, 0, none⟩ 1 1 (pcells [p]) rfl rfl (new_row3 p W) (pcells_one _) (by unfold maxLen; omega) (by omega) (by simp; omega) ?_); intro v' w3 hown hgrow _; obtain ⟨a3, n3, c3, rfl⟩ := own_slice hown; obtain ⟨k3, f3⟩ := app_mid (HO.out.grown (bel_alloc (Below.refl W.heap.size W))) hgrow; have HW := Lib.hid hown; have HG := Lib.hid hgrow; clear hown hgrow)
      obtain ⟨h1, h2, h3⟩ := app_end HO.out (bel_alloc (Below.refl W.heap.size W)) hsz HW.out HG.out
      rw [← e1.out] at h3
      exact ⟨h1.from _, h2, ⟨_, h3⟩, HB.out.trans h2⟩
  case some_ =>
    rintro D pre W _ _ h _
    exact h.elim
  case all =>
    rintro D ys W hD rfl ⟨⟨v, hbox⟩, hB⟩ hK
    have hBW : Below w.heap.size w W := HB1.out.trans (Bel2.below hB (by omega) (by omega))
    have hL := HL.out.below hBW
    have hDom := hL.dom d HDD.out
    obtain ⟨bd, dcap, edv, hbd, hdc, _, hcell⟩ := doms_shape hL.doms (Nat.lt_of_le_of_lt (Nat.zero_le d) HDD.out)
    have xd := hcell d HDD.out
    have xg := hL.led.dv
    have xo := hDom.ov
    have hlg := led_lt hL
    have hldb := hL.lt _ (by rw [hDom.role]; exact fun e => by cases e)
    have hdz : (d : Int) < (st.nd : Int) := by have := HDD.out; omega
    have HP1 : Hid ((butOf but (mlist (ofD st d) 64)).length ≤ 64) := Nat.le_trans (butOf_le _ _) (mlist_le _ _)
    obtain ⟨a, cap, eov, hrow⟩ : ∃ a cap, L.ov d = .slice a (L.ol d).length cap ∧ ∀ k, k < (L.ol d).length → ∃ gb, a = some ⟨gb, 0, none⟩ ∧ gb < w.heap.size ∧ OwAt w gb (k * 5) ((L.ol d).getD k default) := by
      rcases owed_shape (HL.out.dom d HDD.out).own with ⟨e, e0⟩ | ⟨gb, cap, e, hlt, _, _, hat⟩
      · exact ⟨_, _, by rw [e, e0]; rfl, fun k hk => by rw [e0] at hk; simp at hk⟩
      · exact ⟨_, _, e, fun k hk => ⟨gb, rfl, hlt, hat k hk⟩⟩
    rw [edv] at xg
    rw [eov] at xo
    rw [HGG.out.symm] at xg hlg
    unfold ptr at xd
    have HR := Lib.hid hrow
    have HLLn : (L.ol d).length ≤ 900 := HLL.out
    have HLS := Lib.hid (fun k (hk : k < (L.ol d).length) => owed_take hk)
    generalize hol : L.ol d = ol at *
    rw [HBM.out] at hbox HP1
    have HBX2 := Lib.hid hbox
    have HB2 := Lib.hid hB
    have HKD := Lib.hid hK
    have HBMw := Lib.hid hBW
    have hD' := hD
    generalize hpsE : members st d but 64 = ps at *
    have HPSE := Lib.hid hpsE
    have HOL := Lib.hid hol
    generalize L.db d = db at *
    generalize st.nd = nd at *
    clear hbox hB hK hcell edv eov hrow hL hDom hBW hol hpsE
    gi_wp2
    gi_loopw [35] (fun i wr => ∃ (k : Nat) (v : Value), k ≤ ol.length ∧ i = .int .i64 k ∧ Hid (BoxP w1.heap.size (w.heap.size + 1) v (ps ++ (ol.take k).map (·.p)) wr ∧ Bel2 (w.heap.size + 1) w1.heap.size w1 wr ∧ wr.heap[D]? = some (.deferred (some [])))) (fun i _ => ol.length - (intOf i).toNat)
    case atStart => exact ⟨0, _, Nat.zero_le _, rfl, by simpa using HBX2.out, HB2.out, HKD.out⟩
    case round =>
      obtain ⟨k, v2, hk, rfl, hr⟩ := hrel
      have HI := Lib.hid hr.out
      have c0 := hr.out.1.cell
      have f0 := hr.out.1.froz
      have hsz := hr.out.2.1.size
      obtain ⟨a2, n2, c2, rfl⟩ := own_slice hr.out.1.own
      have l1 : w.heap.size + 1 < wr.heap.size := by omega
      clear hr
      by_cases hlt : k < ol.length
      · obtain ⟨gb, rfl, hgb, hat⟩ := HR.out k hlt
        have hsame : Same w wr gb := (HI.out.2.1.block gb (by omega) (by omega)).trans (HB1.out.block gb hgb)
        obtain ⟨o0, o1, o2, o3, o4⟩ := hat.same hsame
        have HT := Lib.hid (HLS.out k hlt)
        generalize ol.getD k default = x at *
        obtain ⟨x1, x2, p⟩ := x
        simp only at o0 o1 o2 o3 o4 HT
        have hltz : (k : Int) < (ol.length : Int) := by omega
        have lgb : gb < wr.heap.size := by omega
        have hps : ps.length ≤ 64 := HP1.out
        have hlen : (ps ++ (ol.take k).map (·.p)).length < 965 := by rw [List.length_append, List.length_map, List.length_take]; omega
        have hT2 : Hid (ps ++ (ol.take (k + 1)).map (·.p) = (ps ++ (ol.take k).map (·.p)) ++ [p]) := by show _ = _; rw [HT.out, List.map_append, List.append_assoc]; rfl
        generalize ps ++ (ol.take k).map (·.p) = qs at *
        clear hat hsame HT
        have bw := bel_alloc (bel_alloc (Below.refl wr.heap.size wr) (o := .cells #[.int .i64 x1, .int .i64 x2, .int .i64 p.1, .int .i64 p.2.1, .int .i64 p.2.2] 56)) (o := .cells #[.int .i64 p.1, .int .i64 p.2.1, .int .i64 p.2.2] 24)
        have hnew := new_row3 p (wr.alloc (.cells #[.int .i64 x1, .int .i64 x2, .int .i64 p.1, .int .i64 p.2.1, .int .i64 p.2.2] 56))
        rw [World.size_alloc] at hnew
        have HN := Lib.hid hnew
        have HBW := Lib.hid bw
        clear hnew bw
        gi_wp2_with (gi_at_builtin; (refine wpListIn_append_own _ rfl _ _ 50 rfl w1.heap.size 24 i0 (.agg #[.int .i64 0, .int .i64 0, .int .i64 0]) 3 24 Try.underlying50 hi hz0 hz1 hz2 rfl (by decide) _ _ _ rfl ((HI.out.1.own.alloc _).alloc _) ⟨wr.heap.size + 1, 0, none⟩ 1 1 (pcells [p]) rfl rfl HN.out (pcells_one _) (by unfold maxLen; omega) (by omega) (by simp; omega) ?_); intro v' w3 hown hgrow _; obtain ⟨a3, n3, c3, rfl⟩ := own_slice hown; obtain ⟨k3, f3⟩ := app_mid (HI.out.1.grown HBW.out) hgrow; have HW := Lib.hid hown; have HG := Lib.hid hgrow; clear hown hgrow)
        go_roundw
        case rel =>
          obtain ⟨h1, h2, h3⟩ := app_end HI.out.1 HBW.out hsz HW.out HG.out
          exact ⟨k + 1, _, by omega, by simp, by rw [hT2.out]; exact h3, HI.out.2.1.trans h2, h1.same _ _ HI.out.2.2 rfl⟩
        case measure => first | (simp [intOf]; done) | (simp [intOf]; omega)
      · obtain rfl : k = ol.length := by omega
        have hge : ¬ (ol.length : Int) < (ol.length : Int) := by omega
        gi_wp2
        have hK' := run_takeDeferred (P := Try.prog) HI.out.2.2
        refine ⟨by simp, .inl ⟨_, _, rfl, hK', ?_⟩⟩
        refine ⟨.slice a2 n2 c2, ?_, ?_⟩
        · simp [results, Try.results38, go_sem]
        · have ho := HI.out.1.own
          rw [List.take_length] at ho
          have hle : w.heap.size ≤ w1.heap.size := by omega
          have hle2 : w.heap.size ≤ w.heap.size + 1 := by omega
          have hle3 : w.heap.size ≤ D := by omega
          have ho2 := own_base ho hle
          rw [HPSE.out, HOL.out]
          exact ⟨_, rfl, own_put ho2 HI.out.2.2 rfl, (HB1.out.trans (Bel2.below HI.out.2.1 hle hle2)).trans (below_put hle3)⟩
end Go.Proofs.Ytmcilmmnpolieaa.SeqG
