/- How a ledger finds a server and a domain, and what it tells of its time. What ledger.Members lays: an array of a domain's members. A row of what is owed: its cells. What a ledger is behind a store into one of its blocks. Each theorem's premises are its conditions. -/
import Derived.Test.YtmcilmmnpolieaaK19
import Derived.Laws.ResultCell
/- How a ledger finds a server and a domain, and what it tells of its time. Each theorem's premises are its conditions. -/
namespace Go.Proofs.Ytmcilmmnpolieaa
open Go.ChangeShapes Go.WideShapes Go.ChangeAt Go.RowKit

theorem row1_cells {w : World} {e : TypeId} {v : Value} {n : Nat} {f : Nat → Value} (h : w.ownsRow 0 e 1 v n ((List.range n).map f)) (h0 : 0 < n) :
    ∃ b cap, v = .slice (some ⟨b, 0, none⟩) n cap ∧ b < w.heap.size ∧ n ≤ cap ∧ ∀ i, i < n → w.cell? ⟨b, i, none⟩ = some (f i) := by
  obtain ⟨_, ⟨rfl, h1⟩ | ⟨g, cap, cur, rfl, hB, hg, hn, _, hs, hc⟩⟩ := h
  · omega
  refine ⟨g, cap, rfl, (Array.getElem?_eq_some_iff.1 hg).1, hn, fun i hi => ?_⟩
  have h1 : ((List.range n).map f)[i]? = some (f i) := by simp [hi]
  rw [← hc, List.getElem?_take] at h1
  split at h1
  · simp only [World.cell?, hg]
    simpa using h1
  · cases h1
theorem doms_shape {w : World} {L : Lay} {nd : Nat} (h : DomsPart w L nd) (h0 : 0 < nd) :
    ∃ b cap, L.dv = .slice (some ⟨b, 0, none⟩) nd cap ∧ b < w.heap.size ∧ nd ≤ cap ∧ L.role b = some .doms ∧ ∀ i, i < nd → w.cell? ⟨b, i, none⟩ = some (ptr (L.db i)) := by
  obtain ⟨b, cap, e, hb, hc, hcell⟩ := row1_cells h.own h0
  exact ⟨b, cap, e, hb, hc, h.role b (by rw [e]; rfl), hcell⟩

theorem results_tct {fn : Func} {u p v : Tmp} {ty : TypeId} (h : fn.results = #[.tmp u, .cell p ty, .tmp v]) (tmps : Array Value) (P : Program) (w : World) :
    (results fn tmps).run P w =
      ((asAddr (tmps.getD p undef)).run P w).andThen fun a w₁ => ((loadVar ty a).run P w₁).andThen fun x w₂ => .ok (.tuple #[tmps.getD u undef, x, tmps.getD v undef]) w₂ := by
  simp only [results, h]
  simp [Sem.run_bind, Result.andThen]
section
variable {w : World} {L : Lay} {st : LS}
theorem led_lt (h : LAt w L st) : L.g < w.heap.size := h.lt _ (by rw [h.led.role]; exact fun e => by cases e)
theorem clock_any (n : Int) (w : World) : Calls Try.prog 31 #[.int .i64 n] w fun e w' => e = .returned (.bool (clockS n)) ∧ w' = w := by
  unfold clockS
  by_cases h1 : 0 ≤ n <;> by_cases h2 : n < 1099511627776
  all_goals
    first | have d1 : decide (0 ≤ n) = true := decide_eq_true h1 | have d1 : decide (0 ≤ n) = false := decide_eq_false h1
    first | have d2 : decide (n < 1099511627776) = true := decide_eq_true h2 | have d2 : decide (n < 1099511627776) = false := decide_eq_false h2
    clear h1 h2
    go_enter Try.func31, Try.ntmps31
    go_wp2_with fail
    go_ret
    exact ⟨ret1 (by rw [d1, d2]; rfl), rfl⟩
theorem sfind_out (id : Int) (hid : ¬ (0 ≤ id ∧ id < 64)) (a : Addr) : Calls Try.prog 28 #[.pointer (some a), .int .i64 id] w fun e w' => e = .returned (.tuple #[.pointer none, .int .i64 10]) ∧ w' = w := by
  by_cases h1 : id < 0
  · have d1 : decide (id < 0) = true := decide_eq_true h1
    clear hid h1
    go_enter Try.func28, Try.ntmps28
    go_wp2_with fail
    go_ret2
    exact ⟨rfl, rfl⟩
  · have d1 : decide (id < 0) = false := decide_eq_false h1
    have d2 : decide (64 ≤ id) = true := decide_eq_true (by omega)
    clear hid h1
    go_enter Try.func28, Try.ntmps28
    go_wp2_with fail
    go_ret2
    exact ⟨rfl, rfl⟩
theorem sfind_none (h : LAt w L st) (i : Nat) (hi : i < 64) (hs : st.srv i = none) : Calls Try.prog 28 #[.pointer (some ⟨L.g, 3, none⟩), .int .i64 i] w fun e w' => e = .returned (.tuple #[.pointer none, .int .i64 14]) ∧ w' = w := by
  have x := h.led.sv i hi
  unfold srvPtr at x
  rw [hs] at x
  have lb := led_lt h
  have d1 : decide ((i : Int) < 0) = false := decide_eq_false (by omega)
  have d2 : decide (64 ≤ (i : Int)) = false := decide_eq_false (by omega)
  have hz : (i : Int) < 64 := by omega
  generalize L.g = g at *
  clear h hs
  go_enter Try.func28, Try.ntmps28
  go_wp2_with fail
  go_ret2
  exact ⟨rfl, rfl⟩
theorem sfind_some (h : LAt w L st) (i : Nat) (hi : i < 64) {s : Nat × P3} (hs : st.srv i = some s) : Calls Try.prog 28 #[.pointer (some ⟨L.g, 3, none⟩), .int .i64 i] w fun e w' => e = .returned (.tuple #[ptr (L.mb i), .int .i64 0]) ∧ w' = w := by
  have x := h.led.sv i hi
  unfold srvPtr at x
  rw [hs] at x
  have lb := led_lt h
  have d1 : decide ((i : Int) < 0) = false := decide_eq_false (by omega)
  have d2 : decide (64 ≤ (i : Int)) = false := decide_eq_false (by omega)
  have hz : (i : Int) < 64 := by omega
  unfold ptr at *
  generalize L.g = g at *
  generalize L.mb i = m at *
  clear h hs
  go_enter Try.func28, Try.ntmps28
  go_wp2_with fail
  go_ret2
  exact ⟨rfl, rfl⟩
theorem member_any (g : Nat) (id : Int) {r : Value} {n : Int} (C : Calls Try.prog 28 #[.pointer (some ⟨g, 3, none⟩), .int .i64 id] w fun e w' => e = .returned (.tuple #[r, .int .i64 n]) ∧ w' = w) :
    Calls Try.prog 30 #[.pointer (some ⟨g, 0, none⟩), .int .i64 id] w fun e w' => e = .returned (.tuple #[r, .int .i64 n]) ∧ w' = w := by
  have HC := Lib.hid C
  clear C
  go_enter Try.func30, Try.ntmps30
  go_wp2_with fail
  refine HC.out.mono ?_
  rintro e w1 ⟨rfl, rfl⟩
  go_wp2_with fail
  go_ret2
  exact ⟨rfl, rfl⟩
theorem dfind_in (h : LAt w L st) (d : Nat) (hd : d < st.nd) : Calls Try.prog 37 #[.pointer (some ⟨L.g, 0, none⟩), .int .i64 d] w fun e w' => e = .returned (.tuple #[ptr (L.db d), .int .i64 0]) ∧ w' = w := by
  obtain ⟨b, cap, e, hb, hc, _, hcell⟩ := doms_shape h.doms (by omega)
  have y := hcell d hd
  have x := h.led.dv
  rw [e] at x
  have lb := led_lt h
  have d1 : decide ((d : Int) < 0) = false := decide_eq_false (by omega)
  have d2 : decide ((st.nd : Int) ≤ (d : Int)) = false := decide_eq_false (by omega)
  have hz : (d : Int) < (st.nd : Int) := by omega
  unfold ptr at *
  generalize L.g = g at *
  generalize L.db d = m at *
  generalize st.nd = nd at *
  clear h e hcell
  go_enter Try.func37, Try.ntmps37
  go_wp2_with fail
  go_ret2
  exact ⟨rfl, rfl⟩
theorem dfind_out (h : LAt w L st) (h0 : 0 < st.nd) (d : Int) (hd : ¬ (0 ≤ d ∧ d < st.nd)) : Calls Try.prog 37 #[.pointer (some ⟨L.g, 0, none⟩), .int .i64 d] w fun e w' => e = .returned (.tuple #[.pointer none, .int .i64 14]) ∧ w' = w := by
  obtain ⟨b, cap, e, hb, hc, _, hcell⟩ := doms_shape h.doms h0
  have x := h.led.dv
  rw [e] at x
  have lb := led_lt h
  generalize L.g = g at *
  generalize st.nd = nd at *
  clear h e hcell
  by_cases h1 : d < 0
  · have d1 : decide (d < 0) = true := decide_eq_true h1
    clear hd h1
    go_enter Try.func37, Try.ntmps37
    go_wp2_with fail
    go_ret2
    exact ⟨rfl, rfl⟩
  · have d1 : decide (d < 0) = false := decide_eq_false h1
    have d2 : decide ((nd : Int) ≤ d) = true := decide_eq_true (by omega)
    clear hd h1
    go_enter Try.func37, Try.ntmps37
    go_wp2_with fail
    go_ret2
    exact ⟨rfl, rfl⟩
theorem now_any (h : LAt w L st) : Calls Try.prog 20 #[.pointer (some ⟨L.g, 0, none⟩)] w fun e w' => e = .returned (.int .i64 st.now) ∧ w' = w := by
  have x := h.led.now
  have lb := led_lt h
  generalize L.g = g at *
  generalize st.now = n at *
  clear h
  go_enter Try.func20, Try.ntmps20
  go_wp2
  go_ret
  exact ⟨rfl, rfl⟩
/-! ### a domain's rule -/
theorem rule_in (h : LAt w L st) (d : Nat) (hd : d < st.nd) : Calls Try.prog 17 #[.pointer (some ⟨L.g, 0, none⟩), .int .i64 d] w
    fun e w' => e = .returned (.tuple #[.agg #[.bool (st.dom d).hard, .int .i64 (st.dom d).cap, .int .i64 (st.dom d).wk], .int .i64 0]) ∧ Below w.heap.size w w' := by
  have C := Lib.hid fun w2 (hb : Below w.heap.size w w2) => dfind_in (h.below hb) d hd
  have b1 := bel_alloc (Below.refl w.heap.size w) (o := .cells #[.bool false, .int .i64 0, .int .i64 0] 41)
  have hD := (h.below b1).dom d hd
  have lb := (h.below b1).lt _ (by rw [hD.role]; exact fun e => by cases e)
  have x0 := hD.hard
  have x1 := hD.cap
  have x2 := hD.wk
  have hne : L.db d ≠ w.heap.size := fun e => by
    have := h.lt (L.db d) (by rw [(h.dom d hd).role]; exact fun e => by cases e)
    omega
  unfold ptr at C
  generalize L.g = g at *
  generalize L.db d = m at *
  generalize st.dom d = x at *
  clear h hD
  go_enter Try.func17, Try.ntmps17
  go_wp2_with fail
  refine (C.out _ b1).mono ?_
  rintro e w1 ⟨rfl, rfl⟩
  go_wp2_with fail
  (try simp only [Exit.inBlock, Exit.then])
  refine bodyPost_ret (v := .tuple #[.agg #[.bool x.hard, .int .i64 x.cap, .int .i64 x.wk], .int .i64 0]) ?_ rfl ⟨rfl, by (repeat (first | with_reducible refine bel_alloc ?_ | with_reducible refine bel_drew ?_)); exact Below.refl _ _⟩
  rw [results_cell_tmp rfl]
  go_simp
theorem rule_out (h : LAt w L st) (h0 : 0 < st.nd) (d : Int) (hd : ¬ (0 ≤ d ∧ d < st.nd)) : Calls Try.prog 17 #[.pointer (some ⟨L.g, 0, none⟩), .int .i64 d] w
    fun e w' => e = .returned (.tuple #[.agg #[.bool false, .int .i64 0, .int .i64 0], .int .i64 14]) ∧ Below w.heap.size w w' := by
  have C := Lib.hid fun w2 (hb : Below w.heap.size w w2) => dfind_out (h.below hb) h0 d hd
  have b1 := bel_alloc (Below.refl w.heap.size w) (o := .cells #[.bool false, .int .i64 0, .int .i64 0] 41)
  generalize L.g = g at *
  clear h hd
  go_enter Try.func17, Try.ntmps17
  go_wp2_with fail
  refine (C.out _ b1).mono ?_
  rintro e w1 ⟨rfl, rfl⟩
  go_wp2_with fail
  (try simp only [Exit.inBlock, Exit.then])
  refine bodyPost_ret (v := .tuple #[.agg #[.bool false, .int .i64 0, .int .i64 0], .int .i64 14]) ?_ rfl ⟨rfl, by (repeat (first | with_reducible refine bel_alloc ?_ | with_reducible refine bel_drew ?_)); exact Below.refl _ _⟩
  rw [results_cell_tmp rfl]
  go_simp
/-! ### where a server is -/
theorem where_some (h : LAt w L st) (i : Nat) (hi : i < 64) {d : Nat} {p : P3} (hs : st.srv i = some (d, p)) : Calls Try.prog 16 #[.pointer (some ⟨L.g, 0, none⟩), .int .i64 i] w
    fun e w' => e = .returned (.tuple #[.int .i64 (d : Nat), .agg #[.int .i64 p.1, .int .i64 p.2.1, .int .i64 p.2.2], .int .i64 0]) ∧ Below w.heap.size w w' := by
  have C := Lib.hid fun w2 (hb : Below w.heap.size w w2) => member_any L.g i (sfind_some (h.below hb) i hi hs)
  have b1 := bel_alloc (Below.refl w.heap.size w) (o := .cells #[.int .i64 0, .int .i64 0, .int .i64 0] 24)
  have hM := (h.below b1).mem i hi
  rw [hs] at hM
  obtain ⟨hr, hf, x0, x1, x2, x3⟩ := hM
  have hlt := h.lt (L.mb i) (by rw [hr]; exact fun e => by cases e)
  have lb : L.mb i < w.heap.size + 1 := by omega
  have hne : L.mb i ≠ w.heap.size := by omega
  obtain ⟨p1, p2, p3⟩ := p
  simp only [Nat.reduceAdd] at x1 x2 x3
  unfold ptr at C
  generalize L.g = g at *
  generalize L.mb i = m at *
  clear h hf hr hs
  go_enter Try.func16, Try.ntmps16
  go_wp2_with fail
  refine (C.out _ b1).mono ?_
  rintro e w1 ⟨rfl, rfl⟩
  go_wp2_with fail
  go_region
  go_wp2
  (try simp only [Exit.inBlock, Exit.then])
  refine bodyPost_ret (v := .tuple #[.int .i64 (d : Nat), .agg #[.int .i64 p1, .int .i64 p2, .int .i64 p3], .int .i64 0]) ?_ rfl ⟨rfl, by (repeat (first | with_reducible refine bel_alloc ?_ | with_reducible refine bel_drew ?_)); exact Below.refl _ _⟩
  rw [results_tct rfl]
  go_simp
theorem where_not (id : Int) {n : Int} (hn : (n != 0) = true) (g : Nat) (w : World) (C : ∀ w2, Below w.heap.size w w2 → Calls Try.prog 30 #[.pointer (some ⟨g, 0, none⟩), .int .i64 id] w2 fun e w' => e = .returned (.tuple #[.pointer none, .int .i64 n]) ∧ w' = w2) : Calls Try.prog 16 #[.pointer (some ⟨g, 0, none⟩), .int .i64 id] w
    fun e w' => e = .returned (.tuple #[.int .i64 0, .agg #[.int .i64 0, .int .i64 0, .int .i64 0], .int .i64 n]) ∧ Below w.heap.size w w' := by
  have HC := Lib.hid C
  have b1 := bel_alloc (Below.refl w.heap.size w) (o := .cells #[.int .i64 0, .int .i64 0, .int .i64 0] 24)
  clear C
  go_enter Try.func16, Try.ntmps16
  go_wp2_with fail
  refine (HC.out _ b1).mono ?_
  rintro e w1 ⟨rfl, rfl⟩
  go_wp2_with fail
  (try simp only [Exit.inBlock, Exit.then])
  refine bodyPost_ret (v := .tuple #[.int .i64 0, .agg #[.int .i64 0, .int .i64 0, .int .i64 0], .int .i64 n]) ?_ rfl ⟨rfl, by (repeat (first | with_reducible refine bel_alloc ?_ | with_reducible refine bel_drew ?_)); exact Below.refl _ _⟩
  rw [results_tct rfl]
  go_simp
end
end Go.Proofs.Ytmcilmmnpolieaa
/- What ledger.Members lays: an array of a domain's members. Each theorem's premises are its conditions. -/
namespace Go.Proofs.Ytmcilmmnpolieaa
open Go.ChangeShapes Go.WideShapes Go.ChangeAt Go.RowKit

/-! ### a load of an array that lies within a block -/
section
variable {P : Program}
theorem run_loadVar_part (w : World) (g off : Nat) (ty : TypeId) (cs : Array Value) (d : TypeDesc)
    (hu : P.underlying ty = some d) (hd : (match d with | .struct _ | .array _ _ => true | _ => false) = true) (hi : (P.info? ty).map (·.size) = some cs.size) (hc : ∀ j v, cs.toList[j]? = some v → w.cell? ⟨g, off + j, none⟩ = some v) :
    (loadVar ty ⟨g, off, none⟩).run P w = .ok (.agg cs) w := by
  have hl : (loadCells ⟨g, off, none⟩ cs.toList.length).run P w = .ok cs.toList.toArray w :=
    run_loadCells_list (P := P) w ⟨g, off, none⟩ cs.toList (fun j v hv => by
      have hadd : (⟨g, off, none⟩ : Addr).add j = ⟨g, off + j, none⟩ := by unfold Addr.add; split <;> simp_all
      rw [hadd]
      exact hc j v hv)
  cases hq : P.info? ty with
  | none => simp [hq] at hi
  | some i =>
    have hs : i.size = cs.size := by simpa [hq] using hi
    have hagg : (isAgg ty).run P w = .ok true w := by
      unfold isAgg
      rw [Sem.run_bind, run_underlying hu w]
      cases d <;> simp_all
    simp only [Array.length_toList, Array.toArray_toList] at hl
    simp [loadVar, Sem.run_bind, hagg, sizeOf, typeInfo, hq, hs, hl]
theorem wpList_load_part {ops : Array Oper} {rest : List Oper} {o : Oper} {a : Act} {w : World} {Q : Exit → Act → World → Prop} (hgd : o.guard = none) (ty : TypeId) (x : Operand) (ho : o.op = .load ty x)
    (g off : Nat) (hx : a.eval x = .pointer (some ⟨g, off, none⟩)) (cs : Array Value) (d : TypeDesc)
    (hu : P.underlying ty = some d) (hd : (match d with | .struct _ | .array _ _ => true | _ => false) = true) (hi : (P.info? ty).map (·.size) = some cs.size) (hc : ∀ j v, cs.toList[j]? = some v → w.cell? ⟨g, off + j, none⟩ = some v)
    (h : wpList P ops Q rest (a.put o.dst (.agg cs)) w) : wpList P ops Q (o :: rest) a w :=
  wpList_plain hgd fun _ hK => by
    unfold Oper.wp execOp
    simp only [ho, hx, Instr.loadAt, Instr.sureAddr, Sem.run_bind, Sem.run_pure, Result.andThen_ok, run_loadVar_part w g off ty cs d hu hd hi hc]
    exact hK _ _ h
theorem run_index_row (t e : TypeId) (n : Nat) (cs : Array Value) (i : Nat) (v : Value) (w : World) (ht : P.underlying t = some (.array n e)) (hz : (Go.sizeOf e).run P w = .ok 1 w) (ha : (isAgg e).run P w = .ok false w) (hi : i < n) (hv : cs[i]? = some v) :
    (Instr.index t (.agg cs) (.int .i64 i)).run P w = .ok v w := by
  unfold Instr.index part
  simp [Sem.run_bind, asIntOf, run_underlying ht, hz, ha, hv, Result.andThen]
  intro h2
  omega
end
theorem Try.info64 : (Try.prog.info? 73).map (·.size) = some 64 := by kernel_rfl
/-- the servers' pointers, as one value. -/
def cells64 (f : Nat → Value) : Array Value := ((List.range 64).map f).toArray
theorem cells64_size (f : Nat → Value) : (cells64 f).size = 64 := by simp [cells64]
theorem cells64_get {f : Nat → Value} {j : Nat} {v : Value} (h : (cells64 f).toList[j]? = some v) : j < 64 ∧ v = f j := by
  have hj : j < (cells64 f).toList.length := (List.getElem?_eq_some_iff.1 h).1
  have hj' : j < 64 := by simpa [cells64] using hj
  refine ⟨hj', ?_⟩
  simp [cells64, hj'] at h
  exact h.symm
theorem cells64_at (f : Nat → Value) {j : Nat} (hj : j < 64) : (cells64 f)[j]? = some (f j) := by simp [cells64, hj]

theorem cell_new (w : World) (t : TypeId) (cs : Array Value) (o : Nat) : (w.alloc (.cells cs t)).cell? ⟨w.heap.size, o, none⟩ = cs[o]? := by
  unfold World.cell?
  rw [show (w.alloc (.cells cs t)).heap[(⟨w.heap.size, o, none⟩ : Addr).block]? = some (.cells cs t) from heap_alloc_new w _]
  rfl
theorem froz_new (w : World) (t : TypeId) (cs : Array Value) (o : Nat) : (w.alloc (.cells cs t)).frozen? ⟨w.heap.size, o, none⟩ = false := by
  unfold World.frozen?
  rw [show (w.alloc (.cells cs t)).heap[(⟨w.heap.size, o, none⟩ : Addr).block]? = some (.cells cs t) from heap_alloc_new w _]
  simp
/-- an array of members: those of the first n that f tells; the others' pointers are nil. -/
structure AllUpto (W : World) (B A : Nat) (f : Nat → Option P3) (n : Nat) : Prop where
  lt : A < W.heap.size
  le : B ≤ A
  froz : ∀ o, W.frozen? ⟨A, o, none⟩ = false
  cell : ∀ j, j < 64 → (n ≤ j ∨ f j = none) → W.cell? ⟨A, j, none⟩ = some (.pointer none)
  mem : ∀ j, j < n → j < 64 → ∀ p, f j = some p → ∃ m, A < m ∧ m < W.heap.size ∧ W.cell? ⟨A, j, none⟩ = some (ptr m) ∧ ParamAt W m 1 p
theorem ParamAt.same' {W W' : World} {m o : Nat} {p : P3} (h : ParamAt W m o p) (k : Same W W' m) : ParamAt W' m o p := ⟨(k.cell _).trans h.1, (k.cell _).trans h.2.1, (k.cell _).trans h.2.2⟩
theorem AllUpto.keep {W W' : World} {B A n : Nat} {f : Nat → Option P3} (h : AllUpto W B A f n) (k : ∀ b, A ≤ b → b < W.heap.size → Same W W' b) (hs : W.heap.size ≤ W'.heap.size) : AllUpto W' B A f n where
  lt := Nat.lt_of_lt_of_le h.lt hs
  le := h.le
  froz o := ((k A (Nat.le_refl _) h.lt).froz o).trans (h.froz o)
  cell j hj hn := ((k A (Nat.le_refl _) h.lt).cell j).trans (h.cell j hj hn)
  mem j hj hj' p hp := by
    obtain ⟨m, h1, h2, h3, h4⟩ := h.mem j hj hj' p hp
    exact ⟨m, h1, Nat.lt_of_lt_of_le h2 hs, ((k A (Nat.le_refl _) h.lt).cell j).trans h3, h4.same' (k m (by omega) h2)⟩
theorem AllUpto.below {W W' : World} {B A n : Nat} {f : Nat → Option P3} (h : AllUpto W B A f n) (k : Below W.heap.size W W') : AllUpto W' B A f n := h.keep (fun b _ hb => k.block b hb) k.size
theorem AllUpto.start (w : World) (f : Nat → Option P3) (t : TypeId) : AllUpto (w.alloc (.cells (Array.replicate 64 (.pointer none)) t)) w.heap.size w.heap.size f 0 where
  lt := by simp
  le := Nat.le_refl _
  froz o := froz_new _ _ _ _
  cell j hj _ := by rw [cell_new]; simp [hj]
  mem j hj := absurd hj (Nat.not_lt_zero _)
theorem AllUpto.skip {W : World} {B A n : Nat} {f : Nat → Option P3} (h : AllUpto W B A f n) (hn : f n = none) : AllUpto W B A f (n + 1) where
  lt := h.lt
  le := h.le
  froz := h.froz
  cell j hj hd := h.cell j hj (by
    rcases hd with hd | hd
    · exact .inl (by omega)
    · exact .inr hd)
  mem j hj hj' p hp := by
    by_cases e : j = n
    · subst e; rw [hn] at hp; cases hp
    · exact h.mem j (by omega) hj' p hp
theorem AllUpto.put {W : World} {B A n : Nat} {f : Nat → Option P3} {p : P3} {v : Value} {t : TypeId} (h : AllUpto W B A f n) (hn : f n = some p) (h64 : n < 64) : AllUpto ((W.alloc (.cells #[v, .int .i64 p.1, .int .i64 p.2.1, .int .i64 p.2.2] t)).setCell ⟨A, n, none⟩ (ptr W.heap.size)) B A f (n + 1) := by
  have hlt := h.lt
  have hA : A ≠ W.heap.size := by omega
  have h0 : (W.alloc (.cells #[v, .int .i64 p.1, .int .i64 p.2.1, .int .i64 p.2.2] t)).cell? ⟨A, n, none⟩ = some (.pointer none) := cell_alloc (h.cell n h64 (.inl (Nat.le_refl _)))
  have old : ∀ m o u, m ≠ A → W.cell? ⟨m, o, none⟩ = some u → ((W.alloc (.cells #[v, .int .i64 p.1, .int .i64 p.2.1, .int .i64 p.2.2] t)).setCell ⟨A, n, none⟩ (ptr W.heap.size)).cell? ⟨m, o, none⟩ = some u := fun m o u hm hc => by
    rw [World.cell?_setCell_other _ _ _ _ (fun e => hm (congrArg Addr.block e).symm)]; exact cell_alloc hc
  have oth : ∀ o u, o ≠ n → W.cell? ⟨A, o, none⟩ = some u → ((W.alloc (.cells #[v, .int .i64 p.1, .int .i64 p.2.1, .int .i64 p.2.2] t)).setCell ⟨A, n, none⟩ (ptr W.heap.size)).cell? ⟨A, o, none⟩ = some u := fun o u ho hc => by
    rw [World.cell?_setCell_other _ _ _ _ (fun e => ho (congrArg Addr.off e).symm)]; exact cell_alloc hc
  refine ⟨by simp; omega, h.le, fun o => ?_, fun j hj hd => ?_, fun j hj hj' q hq => ?_⟩
  · simp only [World.frozen?_setCell]
    rw [World.frozen?_alloc_old _ _ _ hA]
    exact h.froz o
  · have hjn : j ≠ n := fun e => by
      subst e
      rcases hd with hd | hd
      · omega
      · rw [hn] at hd; cases hd
    exact oth j _ hjn (h.cell j hj (hd.imp (by omega) id))
  · by_cases e : j = n
    · subst e
      rw [hn] at hq
      cases hq
      refine ⟨W.heap.size, hlt, by simp, World.cell?_setCell_same _ _ _ h0, ?_⟩
      have hne : ∀ o, (⟨A, j, none⟩ : Addr) ≠ ⟨W.heap.size, o, none⟩ := fun o e => hA (congrArg Addr.block e)
      exact ⟨by rw [World.cell?_setCell_other _ _ _ _ (hne _)]; rw [cell_new]; rfl, by rw [World.cell?_setCell_other _ _ _ _ (hne _)]; rw [cell_new]; rfl, by rw [World.cell?_setCell_other _ _ _ _ (hne _)]; rw [cell_new]; rfl⟩
    · obtain ⟨m, m1, m2, m3, m4⟩ := h.mem j (by omega) hj' q hq
      exact ⟨m, m1, by simp; omega, oth j _ e m3, old m _ _ (by omega) m4.1, old m _ _ (by omega) m4.2.1, old m _ _ (by omega) m4.2.2⟩

/-- a server's params, if it is a member of d. -/
def ofD (st : LS) (d : Int) (i : Nat) : Option P3 := match st.srv i with
  | some (d', p) => if (d' : Int) = d then some p else none
  | none => none
set_option maxRecDepth 100000 in
set_option maxHeartbeats 4000000 in
theorem members_any {w : World} {L : Lay} {st : LS} (h : LAt w L st) (d : Int) : Calls Try.prog 24 #[.pointer (some ⟨L.g, 0, none⟩), .int .i64 d] w
    fun e w' => e = .returned (.func (.func 44) #[] #[.pointer (some ⟨w.heap.size, 0, none⟩)]) ∧ AllUpto w' w.heap.size w.heap.size (ofD st d) 64 ∧ Below w.heap.size w w' := by
  have b1 := bel_alloc (Below.refl w.heap.size w) (o := .cells (Array.replicate 64 (.pointer none)) 73)
  have h1 := h.below b1
  have HX : Hid (∀ j v, (cells64 (srvPtr L st)).toList[j]? = some v → (w.alloc (.cells (Array.replicate 64 (.pointer none)) 73)).cell? ⟨L.g, 3 + j, none⟩ = some v) := fun j v hv => by
    obtain ⟨hj, rfl⟩ := cells64_get hv
    exact h1.led.sv j hj
  have HS := Lib.hid (AllUpto.start w (ofD st d) 73)
  have HB := Lib.hid b1
  have HL := Lib.hid h
  have hi := Try.info64
  have hcs := cells64_size (srvPtr L st)
  rw [← hcs] at hi
  have HI := Lib.hid hi
  have HG := Lib.hid (fun j (hj : j < 64) => cells64_at (srvPtr L st) hj)
  generalize cells64 (srvPtr L st) = cs at *
  obtain ⟨g, hg⟩ : ∃ g, g = L.g := ⟨_, rfl⟩
  rw [← hg] at HX ⊢
  have HGG := Lib.hid hg
  clear h h1 b1 hi hcs hg
  go_enter Try.func24, Try.ntmps24
  go_wp2_with (refine wpList_load_part rfl 73 _ rfl g 3 rfl cs _ Try.underlying73 rfl HI.out HX.out ?_)
  go_loopg [14] 64 (fun kx s14 wr => ∃ i : Nat, s14 = .int .i64 i ∧ i ≤ 64 ∧ 64 - i ≤ kx ∧ Hid (AllUpto wr w.heap.size w.heap.size (ofD st d) i ∧ Below w.heap.size w wr))
  case atStart => exact ⟨0, rfl, by omega, by omega, HS.out, HB.out⟩
  case round =>
    clear HX HS HB
    obtain ⟨i, rfl, hi, hkx, HR⟩ := hrel
    by_cases hlt : i < 64
    · have hltz : (i : Int) < 64 := by omega
      have hci := HG.out i hlt
      have hL1 := HL.out.below HR.out.2
      have hfz := HR.out.1.froz i
      have hA := HR.out.1.lt
      unfold srvPtr at hci
      have hix := fun v (hv : cs[i]? = some v) w2 => run_index_row (P := Try.prog) 73 69 64 cs i v w2 Try.underlying73 (Try.sizeOf69 w2) (Try.isAgg69 w2) hlt hv
      cases hs : st.srv i with
      | none =>
        rw [hs] at hci
        have hf : Hid (AllUpto wr w.heap.size w.heap.size (ofD st d) (i + 1)) := HR.out.1.skip (by unfold ofD; rw [hs])
        have HB := Lib.hid HR.out.2
        replace hix := hix _ hci
        clear hL1 hs HR hci
        go_wp2_with fail
        go_roundg (64 - (i + 1))
        case measure => omega
        case rel => exact ⟨i + 1, by first | rfl | (congr 1; done) | (congr 1; omega) | (simp; omega), by omega, Nat.le_refl _, hf.out, HB.out⟩
      | some s =>
        obtain ⟨d', p⟩ := s
        rw [hs] at hci
        have hM := hL1.mem i hlt
        rw [hs] at hM
        obtain ⟨hr, _, x0, x1, x2, x3⟩ := hM
        have lm : L.mb i < wr.heap.size := hL1.lt _ (by rw [hr]; exact fun e => by cases e)
        have lm0 : L.mb i < w.heap.size := HL.out.lt _ (by rw [hr]; exact fun e => by cases e)
        simp only [Nat.reduceAdd] at x1 x2 x3
        unfold ptr at hci
        by_cases hd : (d' : Int) = d
        · have hf0 : ofD st d i = some p := by unfold ofD; rw [hs]; simp [hd]
          have d1 : ((d' : Int) == d) = true := by rw [beq_iff_eq]; exact hd
          have hcA := HR.out.1.cell i hlt (.inl (Nat.le_refl _))
          have hPut := HR.out.1.put (v := .int .i64 d) (t := 78) hf0 hlt
          have hne : w.heap.size ≠ wr.heap.size := by omega
          have HP := Lib.hid hPut
          have HB := Lib.hid HR.out.2
          unfold ptr at HP
          rw [World.setCell_alloc_past (hn := HR.out.1.lt)] at HP
          generalize L.mb i = m at *
          obtain ⟨p1, p2, p3⟩ := p
          replace hix := hix _ hci
          clear hL1 hs hf0 hPut HR hr hd hci
          go_wp2_with fail
          go_roundg (64 - (i + 1))
          case measure => omega
          case rel => exact ⟨i + 1, by first | rfl | (congr 1; done) | (congr 1; omega) | (simp; omega), by omega, Nat.le_refl _, HP.out, by
            refine Below.alloc (Below.setCell HB.out (Nat.le_refl _) _) ?_ _
            rw [World.size_setCell]
            exact HB.out.size⟩
        · have hf0 : ofD st d i = none := by unfold ofD; rw [hs]; simp [hd]
          have d1 : ((d' : Int) == d) = false := by rw [beq_eq_false_iff_ne]; exact hd
          have hf := Lib.hid (HR.out.1.skip hf0)
          have HB := Lib.hid HR.out.2
          generalize L.mb i = m at *
          replace hix := hix _ hci
          clear hL1 hs hf0 HR hr hd hci
          go_wp2_with fail
          go_roundg (64 - (i + 1))
          case measure => omega
          case rel => exact ⟨i + 1, by first | rfl | (congr 1; done) | (congr 1; omega) | (simp; omega), by omega, Nat.le_refl _, hf.out, HB.out⟩
    · obtain rfl : i = 64 := by omega
      go_wp2_with fail
      go_ret
      exact ⟨rfl, HR.out.1, HR.out.2⟩
end Go.Proofs.Ytmcilmmnpolieaa
/- A row of what is owed: its cells. Each theorem's premises are its conditions. -/
namespace Go.Proofs.Ytmcilmmnpolieaa
open Go.ChangeShapes Go.WideShapes Go.ChangeAt Go.RowKit

instance : Inhabited Ow := ⟨⟨0, 0, (0, 0, 0)⟩⟩
def oc (o : Ow) : Nat → Value
  | 0 => .int .i64 o.id
  | 1 => .int .i64 o.till
  | 2 => .int .i64 o.p.1
  | 3 => .int .i64 o.p.2.1
  | _ => .int .i64 o.p.2.2
theorem ocells_length : ∀ l : List Ow, (ocells l).length = l.length * 5
  | [] => rfl
  | o :: l => by simp only [ocells, ocell, List.length_append, List.length_cons, List.length_nil, ocells_length l]; omega
theorem ocells_append : ∀ (l m : List Ow), ocells (l ++ m) = ocells l ++ ocells m
  | [], _ => rfl
  | o :: l, m => by rw [List.cons_append, ocells, ocells_append l m, ocells, List.append_assoc]
theorem ocells_get : ∀ (l : List Ow) (i c : Nat), i < l.length → c < 5 → (ocells l)[i * 5 + c]? = some (oc (l.getD i default) c)
  | [], _, _, h, _ => absurd h (by simp)
  | o :: l, 0, c, _, hc => by
    match c, hc with
    | 0, _ => rfl
    | 1, _ => rfl
    | 2, _ => rfl
    | 3, _ => rfl
    | 4, _ => rfl
  | o :: l, i + 1, c, h, hc => by
    have e : (i + 1) * 5 + c = (i * 5 + c) + 1 + 1 + 1 + 1 + 1 := by omega
    rw [e]
    simp only [ocells, ocell, List.cons_append, List.nil_append, List.getElem?_cons_succ]
    rw [ocells_get l i c (by simpa using h) hc]
    rfl
theorem ocells_one (l : List Ow) : ∀ u ∈ ocells l, u.oneCell' = true := by
  induction l with
  | nil => intro u hu; cases hu
  | cons o l ih =>
    intro u hu
    rw [ocells, List.mem_append] at hu
    rcases hu with hu | hu
    · simp [ocell] at hu
      rcases hu with rfl | rfl | rfl | rfl | rfl <;> rfl
    · exact ih u hu
def OwAt (w : World) (g o : Nat) (x : Ow) : Prop := w.cell? ⟨g, o, none⟩ = some (.int .i64 x.id) ∧ w.cell? ⟨g, o + 1, none⟩ = some (.int .i64 x.till) ∧ w.cell? ⟨g, o + 2, none⟩ = some (.int .i64 x.p.1) ∧ w.cell? ⟨g, o + 3, none⟩ = some (.int .i64 x.p.2.1) ∧ w.cell? ⟨g, o + 4, none⟩ = some (.int .i64 x.p.2.2)
theorem OwAt.same {w w' : World} {g o : Nat} {x : Ow} (h : OwAt w g o x) (k : Same w w' g) : OwAt w' g o x :=
  ⟨(k.cell _).trans h.1, (k.cell _).trans h.2.1, (k.cell _).trans h.2.2.1, (k.cell _).trans h.2.2.2.1, (k.cell _).trans h.2.2.2.2⟩
theorem owed_shape {w : World} {v : Value} {l : List Ow} (h : OwnsO w v l) : (v = .slice none 0 0 ∧ l = []) ∨
    ∃ g cap, v = .slice (some ⟨g, 0, none⟩) l.length cap ∧ g < w.heap.size ∧ l.length ≤ cap ∧ (∀ o, w.frozen? ⟨g, o, none⟩ = false) ∧ ∀ i, i < l.length → OwAt w g (i * 5) (l.getD i default) := by
  obtain ⟨_, ⟨rfl, h1⟩ | ⟨g, cap, cur, rfl, hB, hg, hn, _, hs, hc⟩⟩ := h
  · exact .inl ⟨rfl, List.length_eq_zero_iff.1 h1⟩
  refine .inr ⟨g, cap, rfl, (Array.getElem?_eq_some_iff.1 hg).1, hn, fun o => by simp [World.frozen?, hg], fun i hi => ?_⟩
  have each : ∀ c, c < 5 → w.cell? ⟨g, i * 5 + c, none⟩ = some (oc (l.getD i default) c) := fun c hc' => by
    have h1 := ocells_get l i c hi hc'
    rw [← hc, List.getElem?_take] at h1
    split at h1
    · simp only [World.cell?, hg]
      simpa using h1
    · cases h1
  exact ⟨each 0 (by omega), each 1 (by omega), each 2 (by omega), each 3 (by omega), each 4 (by omega)⟩
theorem owed_take {l : List Ow} {k : Nat} (h : k < l.length) : l.take (k + 1) = l.take k ++ [l.getD k default] := by
  rw [List.take_add_one, List.getElem?_eq_getElem h]
  simp [List.getD, h]
end Go.Proofs.Ytmcilmmnpolieaa
/- What a ledger is behind a store into one of its blocks. Each theorem's premises are its conditions. -/
namespace Go.Proofs.Ytmcilmmnpolieaa
open Go.ChangeShapes Go.WideShapes Go.ChangeAt Go.RowKit

section
variable {w w' : World} {L L' : Lay} {R : Role → Prop}
/-- blocks of roles that R does not name are as they were, and keep their roles. -/
def Ext (w : World) (L : Lay) (w' : World) (L' : Lay) (R : Role → Prop) : Prop := ∀ k r, L.role k = some r → ¬ R r → L'.role k = some r ∧ Same w w' k
theorem LedPart.ext {now : Int} {nw : Nat} {sv sv' : Nat → Value} (h : LedPart w L now nw sv) (e : Ext w L w' L' R) (hR : ¬ R .led) (hg : L'.g = L.g) (hd : L'.dv = L.dv) (hw : L'.wb = L.wb) (hs : ∀ i, i < 64 → sv' i = sv i) : LedPart w' L' now nw sv' := by
  obtain ⟨e1, e2⟩ := e _ _ h.role hR
  have k := h.keep e2
  exact ⟨by rw [hg]; exact e1, by rw [hg]; exact k.froz, by rw [hg]; exact k.now, by rw [hg, hd]; exact k.dv, by rw [hg, hw]; exact k.wv, fun i hi => by rw [hg, hs i hi]; exact k.sv i hi⟩
theorem DomsPart.ext {nd : Nat} (h : DomsPart w L nd) (e : Ext w L w' L' R) (hR : ¬ R .doms) (hd : L'.dv = L.dv) (hb : ∀ i, i < nd → L'.db i = L.db i) : DomsPart w' L' nd where
  role k hk := by rw [hd] at hk; exact (e _ _ (h.role k hk) hR).1
  own := by
    have : (List.range nd).map (fun i => ptr (L'.db i)) = (List.range nd).map fun i => ptr (L.db i) := List.map_congr_left fun i hi => by rw [hb i (List.mem_range.1 hi)]
    rw [hd, this]
    exact own_same h.own fun b hb => (e _ _ (h.role b hb) hR).2
theorem WksPart.ext {nw : Nat} {wk wk' : Nat → Nat} (h : WksPart w L nw wk) (e : Ext w L w' L' R) (hR : ¬ R .wks) (hw : L'.wb = L.wb) (hk : ∀ i, i < nw → wk' i = wk i) : WksPart w' L' nw wk' := by
  obtain ⟨e1, e2⟩ := e _ _ h.role hR
  have k := h.keep e2
  exact ⟨by rw [hw]; exact e1, by rw [hw]; exact k.froz, fun i hi => by rw [hw, hk i hi]; exact k.cell i hi⟩
theorem DomPart.ext {i : Nat} {x : Dom} (h : DomPart w L i x) (e : Ext w L w' L' R) (hR : ¬ R (.dom i)) (hR2 : ¬ R (.owed i)) (hb : L'.db i = L.db i) (hv : L'.ov i = L.ov i) (hl : L'.ol i = L.ol i) : DomPart w' L' i x := by
  obtain ⟨e1, e2⟩ := e _ _ h.role hR
  exact ⟨by rw [hb]; exact e1, fun o => by rw [hb]; exact (e2.froz o).trans (h.froz o), by rw [hb]; exact (e2.cell _).trans h.hard, by rw [hb]; exact (e2.cell _).trans h.cap, by rw [hb]; exact (e2.cell _).trans h.wk, by rw [hb, hv]; exact (e2.cell _).trans h.ov,
    fun k hk => by rw [hv] at hk; exact (e _ _ (h.orole k hk) hR2).1, by rw [hv, hl]; exact own_same h.own fun b hb => (e _ _ (h.orole b hb) hR2).2, by rw [hl]; exact h.perm, by rw [hl]; exact h.sorted⟩
theorem MemPart.ext {i : Nat} {s : Option (Nat × P3)} (h : MemPart w L i s) (e : Ext w L w' L' R) (hR : ¬ R (.mem i)) (hb : L'.mb i = L.mb i) : MemPart w' L' i s := by
  match s, h with
  | none, _ => exact trivial
  | some (d, p), h =>
    obtain ⟨e1, e2⟩ := e _ _ h.1 hR
    exact ⟨by rw [hb]; exact e1, by rw [hb]; exact h.2.keep e2⟩
end
section
variable {w : World} {L : Lay} {st : LS}
theorem role_lt (h : LAt w L st) {k : Nat} {r : Role} (hk : L.role k = some r) : k < w.heap.size := h.lt k (by rw [hk]; exact fun e => by cases e)
theorem role_ne {k j : Nat} {r s : Role} (hk : L.role k = some r) (hj : L.role j = some s) (hrs : r ≠ s) : k ≠ j := fun e => by
  subst e; rw [hk] at hj; exact hrs (Option.some.inj hj)
theorem LAt.drew (h : LAt w L st) : LAt w.drew L st := h.below (Below.refl _ _).drew
/-- a store into the ledger's own block: the rest stays. -/
theorem ext_set {g o : Nat} {v : Value} {r : Role} (hg : L.role g = some r) : Ext w L (w.setCell ⟨g, o, none⟩ v) L (· = r) := fun _ _ hk hs =>
  ⟨hk, Below.heap_setCell _ _ _ _ (role_ne hk hg hs)⟩
theorem next_set {g o : Nat} {v : Value} {r : Role} (hg : L.role g = some r) : Next w L (w.setCell ⟨g, o, none⟩ v) L :=
  ⟨rfl, (Only.refl _ _).set (.inl (by show L.role g ≠ none; rw [hg]; exact fun e => by cases e)) v, fun _ h => .inl h⟩
theorem set_other {g o o' : Nat} {v : Value} (h : o' ≠ o) : (w.setCell ⟨g, o, none⟩ v).cell? ⟨g, o', none⟩ = w.cell? ⟨g, o', none⟩ := World.cell?_setCell_other _ _ _ _ (fun e => h (congrArg Addr.off e).symm)
theorem LAt.setNow (h : LAt w L st) (n : Int) : LAt (w.setCell ⟨L.g, 0, none⟩ (.int .i64 n)) L { st with now := n } := by
  have e := ext_set (w := w) (o := 0) (v := .int .i64 n) h.led.role
  refine ⟨fun k hk => by rw [World.size_setCell]; exact h.lt k hk, ⟨h.led.role, fun o => by rw [World.frozen?_setCell]; exact h.led.froz o, World.cell?_setCell_same _ _ _ h.led.now, ?_, ?_, fun i hi => ?_⟩,
    h.doms.ext e (by simp) rfl fun _ _ => rfl, h.wks.ext e (by simp) rfl fun _ _ => rfl, fun i hi => (h.dom i hi).ext e (by simp) (by simp) rfl rfl rfl, fun i hi => (h.mem i hi).ext e (by simp) rfl⟩
  · rw [set_other (by omega)]; exact h.led.dv
  · rw [set_other (by omega)]; exact h.led.wv
  · rw [set_other (by omega)]; exact h.led.sv i hi
/-- a server is a member no more. -/
theorem LAt.clearSrv (h : LAt w L st) {i : Nat} (hi : i < 64) : LAt (w.setCell ⟨L.g, 3 + i, none⟩ (.pointer none)) L { st with srv := upd st.srv i none } := by
  have e := ext_set (w := w) (o := 3 + i) (v := .pointer none) h.led.role
  refine ⟨fun k hk => by rw [World.size_setCell]; exact h.lt k hk, ⟨h.led.role, fun o => by rw [World.frozen?_setCell]; exact h.led.froz o, ?_, ?_, ?_, fun j hj => ?_⟩,
    h.doms.ext e (by simp) rfl fun _ _ => rfl, h.wks.ext e (by simp) rfl fun _ _ => rfl, fun j hj => (h.dom j hj).ext e (by simp) (by simp) rfl rfl rfl, fun j hj => ?_⟩
  · rw [set_other (by omega)]; exact h.led.now
  · rw [set_other (by omega)]; exact h.led.dv
  · rw [set_other (by omega)]; exact h.led.wv
  · unfold srvPtr
    by_cases hji : j = i
    · subst hji
      simp only [upd_self]
      exact World.cell?_setCell_same _ _ _ (h.led.sv j hj)
    · simp only [upd_ne _ _ _ hji]
      rw [set_other (by omega)]
      exact h.led.sv j hj
  · by_cases hji : j = i
    · subst hji; simp only [upd_self]; exact trivial
    · simp only [upd_ne _ _ _ hji]; exact (h.mem j hj).ext e (by simp) rfl
/-- a new member's block. -/
theorem LAt.putSrv (h : LAt w L st) {i : Nat} (hi : i < 64) (d : Nat) (p : P3) (t : TypeId) :
    LAt ((w.setCell ⟨L.g, 3 + i, none⟩ (ptr w.heap.size)).alloc (.cells #[.int .i64 d, .int .i64 p.1, .int .i64 p.2.1, .int .i64 p.2.2] t)) { L with role := upd L.role w.heap.size (some (.mem i)), mb := upd L.mb i w.heap.size } { st with srv := upd st.srv i (some (d, p)) } ∧
    Next w L ((w.setCell ⟨L.g, 3 + i, none⟩ (ptr w.heap.size)).alloc (.cells #[.int .i64 d, .int .i64 p.1, .int .i64 p.2.1, .int .i64 p.2.2] t)) { L with role := upd L.role w.heap.size (some (.mem i)), mb := upd L.mb i w.heap.size } := by
  have hsz : (w.setCell ⟨L.g, 3 + i, none⟩ (ptr w.heap.size)).heap.size = w.heap.size := World.size_setCell _ _ _
  have old : ∀ k, k < w.heap.size → ((w.setCell ⟨L.g, 3 + i, none⟩ (ptr w.heap.size)).alloc (.cells #[.int .i64 d, .int .i64 p.1, .int .i64 p.2.1, .int .i64 p.2.2] t)).heap[k]? = (w.setCell ⟨L.g, 3 + i, none⟩ (ptr w.heap.size)).heap[k]? := fun k hk => Below.heap_alloc _ _ _ (by rw [hsz]; exact hk)
  have hne : ∀ k r, L.role k = some r → k ≠ w.heap.size := fun k r hk => by have := role_lt h hk; omega
  have gl := role_lt h h.led.role
  have sg : Same (w.setCell ⟨L.g, 3 + i, none⟩ (ptr w.heap.size)) ((w.setCell ⟨L.g, 3 + i, none⟩ (ptr w.heap.size)).alloc (.cells #[.int .i64 d, .int .i64 p.1, .int .i64 p.2.1, .int .i64 p.2.2] t)) L.g := old _ gl
  have e : Ext w L ((w.setCell ⟨L.g, 3 + i, none⟩ (ptr w.heap.size)).alloc (.cells #[.int .i64 d, .int .i64 p.1, .int .i64 p.2.1, .int .i64 p.2.2] t)) { L with role := upd L.role w.heap.size (some (.mem i)), mb := upd L.mb i w.heap.size } (· = .led) := fun k r hk hr =>
    ⟨by simp only [upd_ne _ _ _ (hne k r hk)]; exact hk, (old k (role_lt h hk)).trans (Below.heap_setCell _ _ _ _ (role_ne hk h.led.role hr))⟩
  refine ⟨⟨fun k hk => ?_, ⟨by simp only [upd_ne _ _ _ (hne _ _ h.led.role)]; exact h.led.role, fun o => ?_, ?_, ?_, ?_, fun j hj => ?_⟩, h.doms.ext e (by simp) rfl fun _ _ => rfl, h.wks.ext e (by simp) rfl fun _ _ => rfl, fun j hj => (h.dom j hj).ext e (by simp) (by simp) rfl rfl rfl, fun j hj => ?_⟩, ⟨rfl, ?_, fun k hk => ?_⟩⟩
  · rw [World.size_alloc, hsz]
    simp only [upd] at hk
    split at hk
    · omega
    · have := h.lt k hk; omega
  · rw [sg.froz, World.frozen?_setCell]; exact h.led.froz o
  · rw [sg.cell, set_other (by omega)]; exact h.led.now
  · rw [sg.cell, set_other (by omega)]; exact h.led.dv
  · rw [sg.cell, set_other (by omega)]; exact h.led.wv
  · rw [sg.cell]
    unfold srvPtr
    by_cases hji : j = i
    · subst hji
      simp only [upd_self]
      exact World.cell?_setCell_same _ _ _ (h.led.sv j hj)
    · simp only [upd_ne _ _ _ hji]
      rw [set_other (by omega)]
      exact h.led.sv j hj
  · by_cases hji : j = i
    · subst hji
      simp only [upd_self]
      have hc := fun o => cell_new (w.setCell ⟨L.g, 3 + j, none⟩ (ptr w.heap.size)) t #[.int .i64 d, .int .i64 p.1, .int .i64 p.2.1, .int .i64 p.2.2] o
      have hf := fun o => froz_new (w.setCell ⟨L.g, 3 + j, none⟩ (ptr w.heap.size)) t #[.int .i64 d, .int .i64 p.1, .int .i64 p.2.1, .int .i64 p.2.2] o
      rw [hsz] at hc hf
      exact ⟨by simp only [upd_self], fun o => by simp only [upd_self]; exact hf o, by simp only [upd_self]; rw [hc]; rfl, by simp only [upd_self]; rw [hc]; rfl, by simp only [upd_self]; rw [hc]; rfl, by simp only [upd_self]; rw [hc]; rfl⟩
    · simp only [upd_ne _ _ _ hji]
      exact (h.mem j hj).ext e (by simp) (upd_ne _ _ _ hji)
  · have o1 : Only w (w.setCell ⟨L.g, 3 + i, none⟩ (ptr w.heap.size)) fun k => L.role k ≠ none := (Only.refl _ _).set (.inl (by show L.role L.g ≠ none; rw [h.led.role]; exact fun e => by cases e)) _
    exact ⟨o1.os, o1.tape, o1.output, by rw [World.size_alloc, hsz]; omega, fun k hk hn => (old k hk).trans (o1.block k hk hn)⟩
  · simp only [upd] at hk
    split at hk
    · exact .inr (by omega)
    · exact .inl hk
end
end Go.Proofs.Ytmcilmmnpolieaa
