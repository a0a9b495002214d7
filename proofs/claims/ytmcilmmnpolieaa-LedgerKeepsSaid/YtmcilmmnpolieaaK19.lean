/- A ledger in memory: its blocks. The order in which params stand does not count for a test. Each theorem's premises are its conditions. -/
import Derived.Test.YtmcilmmnpolieaaK09
import Derived.Test.YtmcilmmnpolieaaK15
import Derived.Test.YtmcilmmnpolieaaK18
/- A ledger in memory: its blocks. Each theorem's premises are its conditions. -/
namespace Go.Proofs.Ytmcilmmnpolieaa
open Go.ChangeShapes Go.WideShapes Go.ChangeAt Go.RowKit

/-- what a block of a ledger is. -/
inductive Role where
  | led
  | doms
  | wks
  | dom (i : Nat)
  | owed (i : Nat)
  | mem (i : Nat)
def ocell (o : Ow) : List Value := [.int .i64 o.id, .int .i64 o.till, .int .i64 o.p.1, .int .i64 o.p.2.1, .int .i64 o.p.2.2]
def ocells : List Ow → List Value
  | [] => []
  | o :: l => ocell o ++ ocells l
/-- v is a slice of what is owed, a row of its own. -/
def OwnsO (w : World) (v : Value) (l : List Ow) : Prop := w.ownsRow 0 56 5 v l.length (ocells l)
def ptr (b : Nat) : Value := .pointer (some ⟨b, 0, none⟩)
def SortedO (l : List Ow) : Prop := l.Pairwise fun a b => ¬ (b.till < a.till ∨ b.till = a.till ∧ b.id < a.id)
/-- where a ledger's blocks lie, and what is owed as it lies. -/
structure Lay where
  role : Nat → Option Role
  g : Nat
  dv : Value
  db : Nat → Nat
  wb : Nat
  ov : Nat → Value
  ol : Nat → List Ow
  mb : Nat → Nat
def srvPtr (L : Lay) (st : LS) (i : Nat) : Value := match st.srv i with
  | some _ => ptr (L.mb i)
  | none => .pointer none
structure LedPart (w : World) (L : Lay) (now : Int) (nw : Nat) (sv : Nat → Value) : Prop where
  role : L.role L.g = some .led
  froz : ∀ o, w.frozen? ⟨L.g, o, none⟩ = false
  now : w.cell? ⟨L.g, 0, none⟩ = some (.int .i64 now)
  dv : w.cell? ⟨L.g, 1, none⟩ = some L.dv
  wv : w.cell? ⟨L.g, 2, none⟩ = some (.slice (some ⟨L.wb, 0, none⟩) nw nw)
  sv : ∀ i, i < 64 → w.cell? ⟨L.g, 3 + i, none⟩ = some (sv i)
structure DomsPart (w : World) (L : Lay) (nd : Nat) : Prop where
  role : ∀ k, L.dv.ownBlock = some k → L.role k = some .doms
  own : w.ownsRow 0 80 1 L.dv nd ((List.range nd).map fun i => ptr (L.db i))
structure WksPart (w : World) (L : Lay) (nw : Nat) (wk : Nat → Nat) : Prop where
  role : L.role L.wb = some .wks
  froz : ∀ o, w.frozen? ⟨L.wb, o, none⟩ = false
  cell : ∀ i, i < nw → w.cell? ⟨L.wb, i, none⟩ = some (.int .i64 (wk i : Nat))
structure DomPart (w : World) (L : Lay) (i : Nat) (x : Dom) : Prop where
  role : L.role (L.db i) = some (.dom i)
  froz : ∀ o, w.frozen? ⟨L.db i, o, none⟩ = false
  hard : w.cell? ⟨L.db i, 0, none⟩ = some (.bool x.hard)
  cap : w.cell? ⟨L.db i, 1, none⟩ = some (.int .i64 x.cap)
  wk : w.cell? ⟨L.db i, 2, none⟩ = some (.int .i64 x.wk)
  ov : w.cell? ⟨L.db i, 3, none⟩ = some (L.ov i)
  orole : ∀ k, (L.ov i).ownBlock = some k → L.role k = some (.owed i)
  own : OwnsO w (L.ov i) (L.ol i)
  perm : (L.ol i).Perm x.owed
  sorted : SortedO (L.ol i)
def MemCells (w : World) (m : Nat) (d : Nat) (p : P3) : Prop := (∀ o, w.frozen? ⟨m, o, none⟩ = false) ∧ w.cell? ⟨m, 0, none⟩ = some (.int .i64 (d : Nat)) ∧ ParamAt w m 1 p
def MemPart (w : World) (L : Lay) (i : Nat) : Option (Nat × P3) → Prop
  | none => True
  | some (d, p) => L.role (L.mb i) = some (.mem i) ∧ MemCells w (L.mb i) d p
/-- the ledger at L is in the state st. -/
structure LAt (w : World) (L : Lay) (st : LS) : Prop where
  lt : ∀ k, L.role k ≠ none → k < w.heap.size
  led : LedPart w L st.now st.nw (srvPtr L st)
  doms : DomsPart w L st.nd
  wks : WksPart w L st.nw st.wk
  dom : ∀ i, i < st.nd → DomPart w L i (st.dom i)
  mem : ∀ i, i < 64 → MemPart w L i (st.srv i)

/-! ### what stays -/
def Same (w w' : World) (k : Nat) : Prop := w'.heap[k]? = w.heap[k]?
theorem Same.cell {w w' : World} {k : Nat} (h : Same w w' k) (o : Nat) : w'.cell? ⟨k, o, none⟩ = w.cell? ⟨k, o, none⟩ := World.cell?_of_block (a := ⟨k, o, none⟩) h
theorem Same.froz {w w' : World} {k : Nat} (h : Same w w' k) (o : Nat) : w'.frozen? ⟨k, o, none⟩ = w.frozen? ⟨k, o, none⟩ := World.frozen?_of_block (a := ⟨k, o, none⟩) h
theorem own_same {w w' : World} {B e s n : Nat} {v : Value} {xs : List Value} (h : w.ownsRow B e s v n xs) (k : ∀ b, v.ownBlock = some b → Same w w' b) : w'.ownsRow B e s v n xs := by
  obtain ⟨hl, ⟨rfl, h0⟩ | ⟨g, cap, cur, rfl, hB, hg, hn⟩⟩ := h
  · exact ⟨hl, .inl ⟨rfl, h0⟩⟩
  · exact ⟨hl, .inr ⟨g, cap, cur, rfl, hB, (k g rfl).trans hg, hn⟩⟩
section
variable {w w' : World} {L L' : Lay}
theorem LedPart.keep {now : Int} {nw : Nat} {sv : Nat → Value} (h : LedPart w L now nw sv) (k : Same w w' L.g) : LedPart w' L now nw sv :=
  ⟨h.role, fun o => (k.froz o).trans (h.froz o), (k.cell _).trans h.now, (k.cell _).trans h.dv, (k.cell _).trans h.wv, fun i hi => (k.cell _).trans (h.sv i hi)⟩
theorem DomsPart.keep {nd : Nat} (h : DomsPart w L nd) (k : ∀ b, L.role b = some .doms → Same w w' b) : DomsPart w' L nd := ⟨h.role, own_same h.own fun b hb => k b (h.role b hb)⟩
theorem WksPart.keep {nw : Nat} {wk : Nat → Nat} (h : WksPart w L nw wk) (k : Same w w' L.wb) : WksPart w' L nw wk := ⟨h.role, fun o => (k.froz o).trans (h.froz o), fun i hi => (k.cell _).trans (h.cell i hi)⟩
theorem DomPart.keep {i : Nat} {x : Dom} (h : DomPart w L i x) (k : Same w w' (L.db i)) (k2 : ∀ b, L.role b = some (.owed i) → Same w w' b) : DomPart w' L i x :=
  ⟨h.role, fun o => (k.froz o).trans (h.froz o), (k.cell _).trans h.hard, (k.cell _).trans h.cap, (k.cell _).trans h.wk, (k.cell _).trans h.ov, h.orole, own_same h.own fun b hb => k2 b (h.orole b hb), h.perm, h.sorted⟩
theorem MemCells.keep {m d : Nat} {p : P3} (h : MemCells w m d p) (k : Same w w' m) : MemCells w' m d p :=
  ⟨fun o => (k.froz o).trans (h.1 o), (k.cell _).trans h.2.1, (k.cell _).trans h.2.2.1, (k.cell _).trans h.2.2.2.1, (k.cell _).trans h.2.2.2.2⟩
theorem MemPart.keep {i : Nat} {s : Option (Nat × P3)} (h : MemPart w L i s) (k : ∀ b, L.role b = some (.mem i) → Same w w' b) : MemPart w' L i s := by
  match s, h with
  | none, _ => exact trivial
  | some (d, p), h => exact ⟨h.1, h.2.keep (k _ h.1)⟩
/-- all blocks of the ledger but those of the roles R are as they were. -/
def KeepsBut (w w' : World) (L : Lay) (R : Role → Prop) : Prop := ∀ k r, L.role k = some r → ¬ R r → Same w w' k
theorem LAt.keep {st : LS} {S : Nat → Prop} (h : LAt w L st) (k : Only w w' S) (hS : ∀ b, L.role b ≠ none → ¬ S b) : LAt w' L st := by
  have same : ∀ b r, L.role b = some r → Same w w' b := fun b r hb => k.block b (h.lt b (by rw [hb]; exact fun e => by cases e)) (hS b (by rw [hb]; exact fun e => by cases e))
  exact ⟨fun b hb => Nat.lt_of_lt_of_le (h.lt b hb) k.size, h.led.keep (same _ _ h.led.role), h.doms.keep fun b hb => same b _ hb, h.wks.keep (same _ _ h.wks.role),
    fun i hi => (h.dom i hi).keep (same _ _ (h.dom i hi).role) fun b hb => same b _ hb, fun i hi => (h.mem i hi).keep fun b hb => same b _ hb⟩
theorem LAt.below {st : LS} (h : LAt w L st) (k : Below w.heap.size w w') : LAt w' L st := h.keep (S := fun _ => False) (Only.of_below k) fun _ _ h => h
/-- what a call turns of a ledger: its own blocks, and new ones. -/
structure Next (w : World) (L : Lay) (w' : World) (L' : Lay) : Prop where
  g : L'.g = L.g
  only : Only w w' fun k => L.role k ≠ none
  role : ∀ k, L'.role k ≠ none → L.role k ≠ none ∨ w.heap.size ≤ k
theorem Next.refl (w : World) (L : Lay) : Next w L w L := ⟨rfl, Only.refl _ _, fun _ h => .inl h⟩
theorem Next.of_below (L : Lay) (h : Below w.heap.size w w') : Next w L w' L := ⟨rfl, Only.of_below h, fun _ h => .inl h⟩
theorem Next.trans {w'' : World} {L'' : Lay} (h : Next w L w' L') (k : Next w' L' w'' L'') : Next w L w'' L'' :=
  ⟨k.g.trans h.g, h.only.trans k.only fun i hi hlt => (h.role i hi).resolve_right (by omega), fun i hi => by
    rcases k.role i hi with h1 | h1
    · exact h.role i h1
    · exact .inr (Nat.le_trans h.only.size h1)⟩
end
end Go.Proofs.Ytmcilmmnpolieaa
/- The order in which params stand does not count for a test. Each theorem's premises are its conditions. -/
namespace Go.Proofs.Ytmcilmmnpolieaa

theorem sumGo2_from (hard : Bool) : ∀ (l : List P3) (s : Nat × Nat), sumGo2 hard s l = (s.1 + (sumGo2 hard (0, 0) l).1, max s.2 (sumGo2 hard (0, 0) l).2)
  | [], s => by simp [sumGo2]
  | p :: l, s => by
    unfold sumGo2
    rw [sumGo2_from hard l (s.1 + askOf hard p, max s.2 (askOf hard p)), sumGo2_from hard l (0 + askOf hard p, max 0 (askOf hard p))]
    simp only [Prod.mk.injEq]
    omega
theorem asked_cons (hard : Bool) (p : P3) (l : List P3) : asked hard (p :: l) = (askOf hard p + (asked hard l).1, max (askOf hard p) (asked hard l).2) := by
  unfold asked
  rw [sumGo2, sumGo2_from]
  simp
theorem asked_perm (hard : Bool) {l m : List P3} (h : l.Perm m) : asked hard l = asked hard m := by
  induction h with
  | nil => rfl
  | cons x _ ih => rw [asked_cons, asked_cons, ih]
  | swap x y l => simp only [asked_cons, Prod.mk.injEq]; omega
  | trans _ _ ih1 ih2 => exact ih1.trans ih2
theorem allMay_perm {l m : List P3} (h : l.Perm m) : allMay l = allMay m := by
  unfold allMay
  rw [Bool.eq_iff_iff, List.all_eq_true, List.all_eq_true]
  exact ⟨fun k p hp => k p (h.mem_iff.2 hp), fun k p hp => k p (h.mem_iff.1 hp)⟩
theorem test_perm (hard : Bool) (c k : Int) {l m : List P3} (h : l.Perm m) : testNum hard c k l = testNum hard c k m := by
  unfold testNum
  rw [asked_perm hard h, allMay_perm h]
/-- what lies in memory, and what stands in the state, are the same but for the order. -/
theorem all_perm {w : World} {L : Lay} {st : LS} (h : LAt w L st) {d : Nat} (hd : d < st.nd) (but : Int) : (members st d but 64 ++ (L.ol d).map (·.p)).Perm (allOf st d but) :=
  List.Perm.append_left _ ((h.dom d hd).perm.map _)
theorem ol_len {w : World} {L : Lay} {st : LS} {n : Nat} (h : LAt w L st) (ho : LOk st n) {d : Nat} (hd : d < st.nd) : (L.ol d).length ≤ n := by
  rw [(h.dom d hd).perm.length_eq]
  exact ho.owed d hd
end Go.Proofs.Ytmcilmmnpolieaa
