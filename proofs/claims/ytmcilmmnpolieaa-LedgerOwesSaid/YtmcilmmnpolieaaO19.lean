/- A ledger in memory: its blocks. The order in which params stand does not count for a test. What always passes in a ledger: each domain that has members, or owes, passes with all of it. Each theorem's premises are its conditions. -/
import Derived.Test.YtmcilmmnpolieaaO09
import Derived.Test.YtmcilmmnpolieaaO15
import Derived.Test.YtmcilmmnpolieaaO18
/- A ledger in memory: its blocks. Each theorem's premises are its conditions. -/
namespace Go.Proofs.Ytmcilmmnpolieaa
open Go.ChangeShapes Go.WideShapes Go.ChangeAt Go.RowKit

/-- what a block of a ledger is. -/
inductive Role where
  | led
  | doms
  | wks
  | dom (i : Nat)
  | owed (i : Nat)
  | mem (i : Nat)
def ocell (o : Ow) : List Value := [.int .i64 o.id, .int .i64 o.till, .int .i64 o.p.1, .int .i64 o.p.2.1, .int .i64 o.p.2.2]
def ocells : List Ow → List Value
  | [] => []
  | o :: l => ocell o ++ ocells l
/-- v is a slice of what is owed, a row of its own. -/
def OwnsO (w : World) (v : Value) (l : List Ow) : Prop := w.ownsRow 0 56 5 v l.length (ocells l)
def ptr (b : Nat) : Value := .pointer (some ⟨b, 0, none⟩)
def SortedO (l : List Ow) : Prop := l.Pairwise fun a b => ¬ (b.till < a.till ∨ b.till = a.till ∧ b.id < a.id)
/-- where a ledger's blocks lie, and what is owed as it lies. -/
structure Lay where
  role : Nat → Option Role
  g : Nat
  dv : Value
  db : Nat → Nat
  wb : Nat
  ov : Nat → Value
  ol : Nat → List Ow
  mb : Nat → Nat
def srvPtr (L : Lay) (st : LS) (i : Nat) : Value := match st.srv i with
  | some _ => ptr (L.mb i)
  | none => .pointer none
structure LedPart (w : World) (L : Lay) (now : Int) (nw : Nat) (sv : Nat → Value) : Prop where
  role : L.role L.g = some .led
  froz : ∀ o, w.frozen? ⟨L.g, o, none⟩ = false
  now : w.cell? ⟨L.g, 0, none⟩ = some (.int .i64 now)
  dv : w.cell? ⟨L.g, 1, none⟩ = some L.dv
  wv : w.cell? ⟨L.g, 2, none⟩ = some (.slice (some ⟨L.wb, 0, none⟩) nw nw)
  sv : ∀ i, i < 64 → w.cell? ⟨L.g, 3 + i, none⟩ = some (sv i)
structure DomsPart (w : World) (L : Lay) (nd : Nat) : Prop where
  role : ∀ k, L.dv.ownBlock = some k → L.role k = some .doms
  own : w.ownsRow 0 80 1 L.dv nd ((List.range nd).map fun i => ptr (L.db i))
structure WksPart (w : World) (L : Lay) (nw : Nat) (wk : Nat → Nat) : Prop where
  role : L.role L.wb = some .wks
  froz : ∀ o, w.frozen? ⟨L.wb, o, none⟩ = false
  cell : ∀ i, i < nw → w.cell? ⟨L.wb, i, none⟩ = some (.int .i64 (wk i : Nat))
structure DomPart (w : World) (L : Lay) (i : Nat) (x : Dom) : Prop where
  role : L.role (L.db i) = some (.dom i)
  froz : ∀ o, w.frozen? ⟨L.db i, o, none⟩ = false
  hard : w.cell? ⟨L.db i, 0, none⟩ = some (.bool x.hard)
  cap : w.cell? ⟨L.db i, 1, none⟩ = some (.int .i64 x.cap)
  wk : w.cell? ⟨L.db i, 2, none⟩ = some (.int .i64 x.wk)
  ov : w.cell? ⟨L.db i, 3, none⟩ = some (L.ov i)
  orole : ∀ k, (L.ov i).ownBlock = some k → L.role k = some (.owed i)
  own : OwnsO w (L.ov i) (L.ol i)
  perm : (L.ol i).Perm x.owed
  sorted : SortedO (L.ol i)
def MemCells (w : World) (m : Nat) (d : Nat) (p : P3) : Prop := (∀ o, w.frozen? ⟨m, o, none⟩ = false) ∧ w.cell? ⟨m, 0, none⟩ = some (.int .i64 (d : Nat)) ∧ ParamAt w m 1 p
def MemPart (w : World) (L : Lay) (i : Nat) : Option (Nat × P3) → Prop
  | none => True
  | some (d, p) => L.role (L.mb i) = some (.mem i) ∧ MemCells w (L.mb i) d p
/-- the ledger at L is in the state st. -/
structure LAt (w : World) (L : Lay) (st : LS) : Prop where
  lt : ∀ k, L.role k ≠ none → k < w.heap.size
  led : LedPart w L st.now st.nw (srvPtr L st)
  doms : DomsPart w L st.nd
  wks : WksPart w L st.nw st.wk
  dom : ∀ i, i < st.nd → DomPart w L i (st.dom i)
  mem : ∀ i, i < 64 → MemPart w L i (st.srv i)

/-! ### what stays -/
def Same (w w' : World) (k : Nat) : Prop := w'.heap[k]? = w.heap[k]?
theorem Same.cell {w w' : World} {k : Nat} (h : Same w w' k) (o : Nat) : w'.cell? ⟨k, o, none⟩ = w.cell? ⟨k, o, none⟩ := World.cell?_of_block (a := ⟨k, o, none⟩) h
theorem Same.froz {w w' : World} {k : Nat} (h : Same w w' k) (o : Nat) : w'.frozen? ⟨k, o, none⟩ = w.frozen? ⟨k, o, none⟩ := World.frozen?_of_block (a := ⟨k, o, none⟩) h
theorem own_same {w w' : World} {B e s n : Nat} {v : Value} {xs : List Value} (h : w.ownsRow B e s v n xs) (k : ∀ b, v.ownBlock = some b → Same w w' b) : w'.ownsRow B e s v n xs := by
  obtain ⟨hl, ⟨rfl, h0⟩ | ⟨g, cap, cur, rfl, hB, hg, hn⟩⟩ := h
  · exact ⟨hl, .inl ⟨rfl, h0⟩⟩
  · exact ⟨hl, .inr ⟨g, cap, cur, rfl, hB, (k g rfl).trans hg, hn⟩⟩
section
variable {w w' : World} {L L' : Lay}
theorem LedPart.keep {now : Int} {nw : Nat} {sv : Nat → Value} (h : LedPart w L now nw sv) (k : Same w w' L.g) : LedPart w' L now nw sv :=
  ⟨h.role, fun o => (k.froz o).trans (h.froz o), (k.cell _).trans h.now, (k.cell _).trans h.dv, (k.cell _).trans h.wv, fun i hi => (k.cell _).trans (h.sv i hi)⟩
theorem DomsPart.keep {nd : Nat} (h : DomsPart w L nd) (k : ∀ b, L.role b = some .doms → Same w w' b) : DomsPart w' L nd := ⟨h.role, own_same h.own fun b hb => k b (h.role b hb)⟩
theorem WksPart.keep {nw : Nat} {wk : Nat → Nat} (h : WksPart w L nw wk) (k : Same w w' L.wb) : WksPart w' L nw wk := ⟨h.role, fun o => (k.froz o).trans (h.froz o), fun i hi => (k.cell _).trans (h.cell i hi)⟩
theorem DomPart.keep {i : Nat} {x : Dom} (h : DomPart w L i x) (k : Same w w' (L.db i)) (k2 : ∀ b, L.role b = some (.owed i) → Same w w' b) : DomPart w' L i x :=
  ⟨h.role, fun o => (k.froz o).trans (h.froz o), (k.cell _).trans h.hard, (k.cell _).trans h.cap, (k.cell _).trans h.wk, (k.cell _).trans h.ov, h.orole, own_same h.own fun b hb => k2 b (h.orole b hb), h.perm, h.sorted⟩
theorem MemCells.keep {m d : Nat} {p : P3} (h : MemCells w m d p) (k : Same w w' m) : MemCells w' m d p :=
  ⟨fun o => (k.froz o).trans (h.1 o), (k.cell _).trans h.2.1, (k.cell _).trans h.2.2.1, (k.cell _).trans h.2.2.2.1, (k.cell _).trans h.2.2.2.2⟩
theorem MemPart.keep {i : Nat} {s : Option (Nat × P3)} (h : MemPart w L i s) (k : ∀ b, L.role b = some (.mem i) → Same w w' b) : MemPart w' L i s := by
  match s, h with
  | none, _ => exact trivial
  | some (d, p), h => exact ⟨h.1, h.2.keep (k _ h.1)⟩
/-- all blocks of the ledger but those of the roles R are as they were. -/
def KeepsBut (w w' : World) (L : Lay) (R : Role → Prop) : Prop := ∀ k r, L.role k = some r → ¬ R r → Same w w' k
theorem LAt.keep {st : LS} {S : Nat → Prop} (h : LAt w L st) (k : Only w w' S) (hS : ∀ b, L.role b ≠ none → ¬ S b) : LAt w' L st := by
  have same : ∀ b r, L.role b = some r → Same w w' b := fun b r hb => k.block b (h.lt b (by rw [hb]; exact fun e => by cases e)) (hS b (by rw [hb]; exact fun e => by cases e))
  exact ⟨fun b hb => Nat.lt_of_lt_of_le (h.lt b hb) k.size, h.led.keep (same _ _ h.led.role), h.doms.keep fun b hb => same b _ hb, h.wks.keep (same _ _ h.wks.role),
    fun i hi => (h.dom i hi).keep (same _ _ (h.dom i hi).role) fun b hb => same b _ hb, fun i hi => (h.mem i hi).keep fun b hb => same b _ hb⟩
theorem LAt.below {st : LS} (h : LAt w L st) (k : Below w.heap.size w w') : LAt w' L st := h.keep (S := fun _ => False) (Only.of_below k) fun _ _ h => h
/-- what a call turns of a ledger: its own blocks, and new ones. -/
structure Next (w : World) (L : Lay) (w' : World) (L' : Lay) : Prop where
  g : L'.g = L.g
  only : Only w w' fun k => L.role k ≠ none
  role : ∀ k, L'.role k ≠ none → L.role k ≠ none ∨ w.heap.size ≤ k
theorem Next.refl (w : World) (L : Lay) : Next w L w L := ⟨rfl, Only.refl _ _, fun _ h => .inl h⟩
theorem Next.of_below (L : Lay) (h : Below w.heap.size w w') : Next w L w' L := ⟨rfl, Only.of_below h, fun _ h => .inl h⟩
theorem Next.trans {w'' : World} {L'' : Lay} (h : Next w L w' L') (k : Next w' L' w'' L'') : Next w L w'' L'' :=
  ⟨k.g.trans h.g, h.only.trans k.only fun i hi hlt => (h.role i hi).resolve_right (by omega), fun i hi => by
    rcases k.role i hi with h1 | h1
    · exact h.role i h1
    · exact .inr (Nat.le_trans h.only.size h1)⟩
end
end Go.Proofs.Ytmcilmmnpolieaa
/- The order in which params stand does not count for a test. Each theorem's premises are its conditions. -/
namespace Go.Proofs.Ytmcilmmnpolieaa

theorem sumGo2_from (hard : Bool) : ∀ (l : List P3) (s : Nat × Nat), sumGo2 hard s l = (s.1 + (sumGo2 hard (0, 0) l).1, max s.2 (sumGo2 hard (0, 0) l).2)
  | [], s => by simp [sumGo2]
  | p :: l, s => by
    unfold sumGo2
    rw [sumGo2_from hard l (s.1 + askOf hard p, max s.2 (askOf hard p)), sumGo2_from hard l (0 + askOf hard p, max 0 (askOf hard p))]
    simp only [Prod.mk.injEq]
    omega
theorem asked_cons (hard : Bool) (p : P3) (l : List P3) : asked hard (p :: l) = (askOf hard p + (asked hard l).1, max (askOf hard p) (asked hard l).2) := by
  unfold asked
  rw [sumGo2, sumGo2_from]
  simp
theorem asked_perm (hard : Bool) {l m : List P3} (h : l.Perm m) : asked hard l = asked hard m := by
  induction h with
  | nil => rfl
  | cons x _ ih => rw [asked_cons, asked_cons, ih]
  | swap x y l => simp only [asked_cons, Prod.mk.injEq]; omega
  | trans _ _ ih1 ih2 => exact ih1.trans ih2
theorem allMay_perm {l m : List P3} (h : l.Perm m) : allMay l = allMay m := by
  unfold allMay
  rw [Bool.eq_iff_iff, List.all_eq_true, List.all_eq_true]
  exact ⟨fun k p hp => k p (h.mem_iff.2 hp), fun k p hp => k p (h.mem_iff.1 hp)⟩
theorem test_perm (hard : Bool) (c k : Int) {l m : List P3} (h : l.Perm m) : testNum hard c k l = testNum hard c k m := by
  unfold testNum
  rw [asked_perm hard h, allMay_perm h]
/-- what lies in memory, and what stands in the state, are the same but for the order. -/
theorem all_perm {w : World} {L : Lay} {st : LS} (h : LAt w L st) {d : Nat} (hd : d < st.nd) (but : Int) : (members st d but 64 ++ (L.ol d).map (·.p)).Perm (allOf st d but) :=
  List.Perm.append_left _ ((h.dom d hd).perm.map _)
theorem ol_len {w : World} {L : Lay} {st : LS} {n : Nat} (h : LAt w L st) (ho : LOk st n) {d : Nat} (hd : d < st.nd) : (L.ol d).length ≤ n := by
  rw [(h.dom d hd).perm.length_eq]
  exact ho.owed d hd
end Go.Proofs.Ytmcilmmnpolieaa
/- What always passes in a ledger: each domain that has members, or owes, passes with all of it. Each theorem's premises are its conditions. -/
namespace Go.Proofs.Ytmcilmmnpolieaa

/-! ### what is asked for by less -/
theorem asked_sub (hard : Bool) {l m : List P3} (h : l.Sublist m) : (asked hard l).1 ≤ (asked hard m).1 ∧ (asked hard l).2 ≤ (asked hard m).2 := by
  induction h with
  | slnil => exact ⟨Nat.le_refl _, Nat.le_refl _⟩
  | cons a _ ih => rw [asked_cons]; simp only; omega
  | cons_cons a _ ih => rw [asked_cons, asked_cons]; simp only; omega
theorem allMay_sub {l m : List P3} (h : l.Sublist m) (hm : allMay m = true) : allMay l = true := by
  unfold allMay at *
  rw [List.all_eq_true] at *
  exact fun p hp => hm p (h.subset hp)
theorem test_zero2 {hard : Bool} {c k : Int} {ps : List P3} : testNum hard c k ps = 0 ↔ RuleMay c k ∧ allMay ps = true ∧ (((asked hard ps).1 : Nat) : Int) ≤ boundOf hard c k ((asked hard ps).2 : Nat) := by
  unfold testNum
  constructor
  · intro h
    split at h
    · rename_i h1
      split at h
      · cases h
      · rename_i h2
        exact ⟨h1.1, h1.2, Int.not_lt.1 h2⟩
    · cases h
  · rintro ⟨h1, h2, h3⟩
    rw [if_pos ⟨h1, h2⟩, if_neg (Int.not_lt.2 h3)]
/-- the one is, but for the order, a part of the other. -/
def Less (qs ps : List P3) : Prop := ∃ l, ps.Perm l ∧ qs.Sublist l
theorem Less.of_perm {qs ps : List P3} (h : ps.Perm qs) : Less qs ps := ⟨qs, h, List.Sublist.refl _⟩
theorem Less.asked {qs ps : List P3} (h : Less qs ps) (hard : Bool) : (asked hard qs).1 ≤ (asked hard ps).1 ∧ (asked hard qs).2 ≤ (asked hard ps).2 := by
  obtain ⟨l, h1, h2⟩ := h
  rw [asked_perm hard h1]
  exact asked_sub hard h2
theorem Less.may {qs ps : List P3} (h : Less qs ps) (hm : allMay ps = true) : allMay qs = true := by
  obtain ⟨l, h1, h2⟩ := h
  rw [allMay_perm h1] at hm
  exact allMay_sub h2 hm
theorem Less.nil {qs : List P3} (h : Less qs []) : qs = [] := by
  obtain ⟨l, h1, h2⟩ := h
  have : l = [] := List.nil_perm.1 h1
  subst this
  exact List.sublist_nil.1 h2
theorem test_part {hard : Bool} {c k : Int} {ps qs : List P3} (hl : Less qs ps) (h : testNum hard c k ps = 0) : testNum hard c k qs = 0 := by
  obtain ⟨hr, ha, hb⟩ := test_zero2.1 h
  obtain ⟨hs, hm⟩ := hl.asked hard
  refine test_zero2.2 ⟨hr, hl.may ha, ?_⟩
  obtain ⟨_, _, r3, _⟩ := hr
  cases hard with
  | false =>
    rw [boundOf_soft] at hb ⊢
    omega
  | true =>
    rw [boundOf_hard] at hb ⊢
    have p2 : (k - 1) * (((Go.Proofs.Ytmcilmmnpolieaa.asked true qs).2 : Nat) : Int) ≤ (k - 1) * (((Go.Proofs.Ytmcilmmnpolieaa.asked true ps).2 : Nat) : Int) := Int.mul_le_mul_of_nonneg_left (by omega) (by omega)
    omega
theorem asked_max_le (hard : Bool) : ∀ {ps : List P3}, allMay ps = true → (asked hard ps).2 ≤ 1048576
  | [], _ => by simp [asked, sumGo2]
  | p :: l, h => by
    have h1 : allMay [p] = true := allMay_sub (List.Sublist.cons_cons p (List.nil_sublist l)) h
    have h2 : allMay l = true := allMay_sub (List.sublist_cons_self p l) h
    have b1 := (asked_bound hard h1 (by simp)).2
    have b2 := asked_max_le hard h2
    rw [asked_cons] at b1 ⊢
    simp only at b1 ⊢
    omega
theorem test_wider {hard : Bool} {c k : Int} {ps : List P3} (h16 : k + 1 ≤ 16) (h : testNum hard c k ps = 0) : testNum hard c (k + 1) ps = 0 := by
  obtain ⟨⟨r1, r2, r3, r4⟩, ha, hb⟩ := test_zero2.1 h
  have hm := asked_max_le hard ha
  refine test_zero2.2 ⟨⟨r1, r2, by omega, h16⟩, ha, ?_⟩
  cases hard with
  | false =>
    rw [boundOf_soft] at hb ⊢
    rw [Int.mul_add, Int.mul_one]
    omega
  | true =>
    rw [boundOf_hard] at hb ⊢
    have e : (k + 1 - 1) * (((asked true ps).2 : Nat) : Int) = (k - 1) * (((asked true ps).2 : Nat) : Int) + (((asked true ps).2 : Nat) : Int) := by
      rw [show k + 1 - 1 = (k - 1) + 1 by omega, Int.add_mul, Int.one_mul]
    rw [e]
    omega
/-! ### one more among the first n -/
theorem fm_same {α : Type} (f g : Nat → Option α) : ∀ n, (∀ k, k < n → g k = f k) → (List.range n).filterMap g = (List.range n).filterMap f := fun _ h => fm_congr _ fun k hk => h k (List.mem_range.1 hk)
theorem fm_ins {α : Type} (f g : Nat → Option α) (i : Nat) (p : α) (hf : f i = none) (hg : g i = some p) (he : ∀ k, k ≠ i → g k = f k) : ∀ n, i < n → ((List.range n).filterMap g).Perm ((List.range n).filterMap f ++ [p]) := by
  intro n
  induction n with
  | zero => intro h; omega
  | succ n ih =>
    intro hi
    rw [List.range_succ, List.filterMap_append, List.filterMap_append]
    by_cases e : i = n
    · subst e
      have h1 : List.filterMap g [i] = [p] := by simp [hg]
      have h2 : List.filterMap f [i] = [] := by simp [hf]
      rw [h1, h2, List.append_nil, fm_same f g i fun k hk => he k (by omega)]
    · have h1 : List.filterMap g [n] = List.filterMap f [n] := by rw [List.filterMap_cons, List.filterMap_cons, he n (Ne.symm e)]; rfl
      rw [h1]
      refine ((ih (by omega)).append_right _).trans ?_
      rw [List.append_assoc, List.append_assoc]
      exact (List.perm_append_comm).append_left _
section
variable {st : LS} {n : Nat}
/-- what always holds. -/
structure LInv (st : LS) : Prop where
  pass : ∀ d, d < st.nd → allOf st d (-1) ≠ [] → testNum (st.dom d).hard (st.dom d).cap (st.dom d).wk (allOf st d (-1)) = 0
  late : ∀ d, d < st.nd → ∀ o, o ∈ (st.dom d).owed → st.now < o.till
theorem inD_none {d : Nat} {but : Int} {i : Nat} (h : st.srv i = none) : inD st d but i = none := by unfold inD; rw [h]
theorem inD_some {d e : Nat} {p : P3} {but : Int} {i : Nat} (h : st.srv i = some (e, p)) : inD st d but i = if e = d ∧ (i : Int) ≠ but then some p else none := by unfold inD; rw [h]
/-- a server that is put into a domain. -/
theorem put_all (i : Nat) (hi : i < 64) (d : Nat) (p : P3) (but : Int) (hb : but = -1 ∨ but = i) (hs : but = -1 → st.srv i = none) : (allOf { st with srv := upd st.srv i (some (d, p)) } d (-1)).Perm (allOf st d but ++ [p]) := by
  have h1 := fm_ins (inD st d but) (inD { st with srv := upd st.srv i (some (d, p)) } d (-1)) i p ?_ ?_ ?_ 64 hi
  · unfold allOf members
    refine (h1.append_right _).trans ?_
    rw [List.append_assoc, List.append_assoc]
    exact (List.perm_append_comm).append_left _
  · rcases hb with hb | hb
    · exact inD_none (hs hb)
    · unfold inD
      split
      · rename_i h
        rw [if_neg (fun h => h.2 (by rw [hb]))]
      · rfl
  · rw [inD_some (e := d) (p := p) (by simp [upd])]
    rw [if_pos ⟨rfl, by omega⟩]
  · intro k hk
    unfold inD
    simp only [upd_ne _ _ _ hk]
    split
    · rename_i d' p' h
      by_cases hd : d' = d
      · rw [if_pos ⟨hd, by omega⟩, if_pos ⟨hd, by rcases hb with hb | hb <;> omega⟩]
      · rw [if_neg (fun h => hd h.1), if_neg (fun h => hd h.1)]
    · rfl
/-- .. and what the others have. -/
theorem put_other (i d : Nat) (p : P3) {e : Nat} (he : e ≠ d) (hs : ∀ d' p', st.srv i = some (d', p') → d' = d) : allOf { st with srv := upd st.srv i (some (d, p)) } e (-1) = allOf st e (-1) := by
  unfold allOf members
  congr 1
  refine fm_congr _ fun k _ => ?_
  unfold inD
  by_cases hk : k = i
  · subst hk
    simp only [upd_self]
    rw [if_neg (fun h => he h.1.symm)]
    cases h : st.srv k with
    | none => rfl
    | some s =>
      obtain ⟨d', p'⟩ := s
      simp only
      rw [if_neg (fun h2 => he (h2.1.symm.trans (hs d' p' h)))]
  · simp only [upd_ne _ _ _ hk]
theorem pass_test {d but : Int} {p : P3} (h : passS st d but p = 0) : (0 ≤ d ∧ d < st.nd) ∧ testNum (st.dom d.toNat).hard (st.dom d.toNat).cap (st.dom d.toNat).wk (allOf st d.toNat but ++ [p]) = 0 := by
  unfold passS at h
  split at h
  · rename_i h1
    split at h
    · cases h
    · exact ⟨h1, h⟩
  · cases h
theorem join_inv (h : LInv st) (id d : Int) (p : P3) : LInv (joinS st id d p).1 := by
  unfold joinS
  split
  · rename_i hid
    split
    · exact h
    · rename_i hs
      split
      · rename_i hp
        obtain ⟨hd, ht⟩ := pass_test hp
        refine ⟨fun e he hne => ?_, h.late⟩
        by_cases hed : e = d.toNat
        · subst hed
          exact test_part (Less.of_perm (put_all id.toNat (by omega) d.toNat p (-1) (.inl rfl) (fun _ => hs)).symm) ht
        · rw [put_other id.toNat d.toNat p hed (fun d' p' h => by rw [hs] at h; cases h)] at hne ⊢
          exact h.pass e he hne
      · exact h
  · exact h
theorem change_inv (h : LInv st) (id : Int) (p : P3) : LInv (changeS st id p).1 := by
  unfold changeS
  split
  · rename_i hid
    split
    · rename_i d p0 hs
      split
      · rename_i hp
        obtain ⟨hd, ht⟩ := pass_test hp
        rw [Int.toNat_natCast] at ht
        refine ⟨fun e he hne => ?_, h.late⟩
        by_cases hed : e = d
        · subst hed
          exact test_part (Less.of_perm (put_all id.toNat (by omega) e p id (.inr (by omega)) (fun hh => by omega)).symm) ht
        · rw [put_other id.toNat d p hed (fun d' p' h => by rw [hs] at h; cases h; rfl)] at hne ⊢
          exact h.pass e he hne
      · exact h
    · exact h
  · exact h
/-- a server that has left: what its domain had, and what it has now. -/
theorem gone_mem {i : Nat} (hi : i < 64) {d : Nat} {p : P3} (hs : st.srv i = some (d, p)) (dom : Nat → Dom) : (members st d (-1) 64).Perm (members { st with srv := upd st.srv i none, dom := dom } d (-1) 64 ++ [p]) := by
  unfold members
  refine fm_ins (inD { st with srv := upd st.srv i none, dom := dom } d (-1)) (inD st d (-1)) i p ?_ ?_ ?_ 64 hi
  · exact inD_none (by simp [upd])
  · rw [inD_some hs, if_pos ⟨rfl, by omega⟩]
  · intro k hk
    unfold inD
    simp only [upd_ne _ _ _ hk]
theorem gone_other {i : Nat} {d e : Nat} {p : P3} (hs : st.srv i = some (d, p)) (he : e ≠ d) (dom : Nat → Dom) : members { st with srv := upd st.srv i none, dom := dom } e (-1) 64 = members st e (-1) 64 := by
  unfold members
  refine fm_congr _ fun k _ => ?_
  unfold inD
  by_cases hk : k = i
  · subst hk
    simp only [upd_self, hs]
    rw [if_neg (fun h => he h.1.symm)]
  · simp only [upd_ne _ _ _ hk]
theorem leave_inv (h : LInv st) (ho : LOk st n) (id tm : Int) : LInv (leaveS st id tm).1 := by
  unfold leaveS
  split
  · rename_i hid
    split
    · split
      · rename_i d p hs
        have hi : id.toNat < 64 := by omega
        have hdn := ho.srv id.toNat hi d p hs
        have hm := gone_mem (st := st) hi hs (if st.now < tm then upd st.dom d (owe (st.dom d) ⟨id, tm, p⟩) else st.dom)
        refine ⟨fun e he hne => ?_, fun e he o hoo => ?_⟩
        · by_cases hed : e = d
          · subst hed
            have hold : allOf st e (-1) ≠ [] := fun hz => by
              have : members st e (-1) 64 = [] := (List.append_eq_nil_iff.1 hz).1
              rw [this] at hm
              have := hm.length_eq
              simp at this
            have ht := h.pass e he hold
            have hl : Less (allOf { st with srv := upd st.srv id.toNat none, dom := if st.now < tm then upd st.dom e (owe (st.dom e) ⟨id, tm, p⟩) else st.dom } e (-1)) (allOf st e (-1)) := by
              by_cases hn : st.now < tm
              · refine Less.of_perm ?_
                unfold allOf
                simp only [if_pos hn, upd_self, owe, List.map_append, List.map_cons, List.map_nil] at hm ⊢
                refine (hm.append_right _).trans ?_
                rw [List.append_assoc]
                exact (List.perm_append_comm).append_left _
              · unfold allOf
                simp only [if_neg hn] at hm ⊢
                refine ⟨_, hm.append_right _, ?_⟩
                exact (List.sublist_append_left _ _).append (List.Sublist.refl _)
            have e2 : (if st.now < tm then upd st.dom e (owe (st.dom e) ⟨id, tm, p⟩) else st.dom) e = if st.now < tm then owe (st.dom e) ⟨id, tm, p⟩ else st.dom e := by split <;> simp [upd]
            have eh : ((if st.now < tm then upd st.dom e (owe (st.dom e) ⟨id, tm, p⟩) else st.dom) e).hard = (st.dom e).hard := by rw [e2]; split <;> rfl
            have ec : ((if st.now < tm then upd st.dom e (owe (st.dom e) ⟨id, tm, p⟩) else st.dom) e).cap = (st.dom e).cap := by rw [e2]; split <;> rfl
            have ew : ((if st.now < tm then upd st.dom e (owe (st.dom e) ⟨id, tm, p⟩) else st.dom) e).wk = (st.dom e).wk := by rw [e2]; split <;> rfl
            simp only [eh, ec, ew]
            exact test_part hl ht
          · have ed : (if st.now < tm then upd st.dom d (owe (st.dom d) ⟨id, tm, p⟩) else st.dom) e = st.dom e := by
              split
              · exact upd_ne _ _ _ hed
              · rfl
            have ea : allOf { st with srv := upd st.srv id.toNat none, dom := if st.now < tm then upd st.dom d (owe (st.dom d) ⟨id, tm, p⟩) else st.dom } e (-1) = allOf st e (-1) := by
              unfold allOf
              rw [gone_other hs hed]
              simp only [ed]
            rw [ea] at hne ⊢
            simp only [ed]
            exact h.pass e he hne
        · by_cases hn : st.now < tm
          · simp only [if_pos hn] at hoo
            by_cases hed : e = d
            · subst hed
              simp only [upd_self, owe, List.mem_append, List.mem_singleton] at hoo
              rcases hoo with hoo | rfl
              · exact h.late e he o hoo
              · exact hn
            · rw [upd_ne _ _ _ hed] at hoo
              exact h.late e he o hoo
          · simp only [if_neg hn] at hoo
            exact h.late e he o hoo
      · exact h
    · exact h
  · exact h
theorem move_inv (h : LInv st) (ho : LOk st n) (id d tm : Int) : LInv (moveS st id d tm).1 := by
  unfold moveS
  split
  · split
    · split
      · split
        · exact h
        · split
          · exact join_inv (leave_inv h ho id tm) id d _
          · exact h
      · exact h
    · exact h
  · exact h
theorem go_inv (h : LInv st) (now : Int) : LInv (goS st now).1 := by
  unfold goS
  split
  · refine ⟨fun d hd hne => ?_, fun d hd o hoo => ?_⟩
    · simp only [if_pos hd] at hne ⊢
      have hl : Less (allOf { st with now := now, dom := fun i => if i < st.nd then keepOw now (st.dom i) else st.dom i } d (-1)) (allOf st d (-1)) := by
        unfold allOf
        simp only [if_pos (show d < st.nd from hd)]
        exact ⟨_, List.Perm.refl _, (List.Sublist.refl _).append (List.filter_sublist.map _)⟩
      have hold : allOf st d (-1) ≠ [] := fun hz => hne (by rw [hz] at hl; exact hl.nil)
      exact test_part hl (h.pass d hd hold)
    · simp only [if_pos hd, keepOw] at hoo
      have := (List.mem_filter.1 hoo).2
      simp at this
      simp only
      omega
  · exact h
theorem worker_inv (h : LInv st) (ho : LOk st n) (w d : Int) : LInv (workerS st w d).1 := by
  have hok := worker_ok ho w d
  unfold workerS at hok ⊢
  split
  · rename_i hw
    rw [if_pos hw] at hok
    split
    · rename_i hd
      rw [if_pos hd] at hok
      split
      · exact h
      · rename_i hne
        rw [if_neg hne] at hok
        split
        · exact h
        · rename_i h16
          rw [if_neg h16] at hok
          split
          · exact h
          · rename_i h17
            rw [if_neg h17] at hok
            have hfd := ho.wk w.toNat (by omega)
            have hdn : d.toNat ≠ st.wk w.toNat := by omega
            have hpos := ho.wk_pos (w := w.toNat) (by omega)
            have all_ : ∀ e, allOf { st with dom := upd (upd st.dom (st.wk w.toNat) (addW (st.dom (st.wk w.toNat)) (-1))) d.toNat (addW (st.dom d.toNat) 1), wk := upd st.wk w.toNat d.toNat } e (-1) = allOf st e (-1) := by
              intro e
              unfold allOf members
              congr 1
              simp only [upd]
              split
              · rename_i he; rw [he]; rfl
              · split
                · rename_i he; rw [he]; rfl
                · rfl
            refine ⟨fun e he hnn => ?_, fun e he o hoo => ?_⟩
            · rw [all_] at hnn ⊢
              by_cases h1 : e = d.toNat
              · subst h1
                have hr := (hok.wk_range he).2
                simp only [upd_self, addW] at hr ⊢
                exact test_wider hr (h.pass _ (by omega) hnn)
              · simp only [upd_ne _ _ _ h1]
                by_cases h2 : e = st.wk w.toNat
                · subst h2
                  simp only [upd_self, addW]
                  have hlen : 0 < (allOf st (st.wk w.toNat) (-1)).length := List.length_pos_iff.2 hnn
                  have hk : (st.dom (st.wk w.toNat)).wk - 1 ≠ 0 := fun hz => h16 ⟨hz, hlen⟩
                  apply Classical.byContradiction
                  intro hc
                  exact h17 ⟨by omega, hc⟩
                · simp only [upd_ne _ _ _ h2]
                  exact h.pass e he hnn
            · simp only [upd] at hoo
              split at hoo
              · rename_i h1; subst h1; exact h.late _ (by omega) o hoo
              · split at hoo
                · rename_i h1; subst h1; exact h.late _ hfd o hoo
                · exact h.late e he o hoo
    · exact h
  · exact h
theorem domain_inv (h : LInv st) (ho : LOk st n) (hard : Bool) (cap : Int) : LInv (domainS st hard cap).1 := by
  unfold domainS
  split
  · exact h
  · split
    · exact h
    · have mem : ∀ e, members { st with nd := st.nd + 1, dom := upd st.dom st.nd ⟨hard, cap, 0, []⟩ } e (-1) 64 = members st e (-1) 64 := fun _ => rfl
      refine ⟨fun e he hne => ?_, fun e he o hoo => ?_⟩
      · by_cases h1 : e = st.nd
        · subst h1
          refine absurd ?_ hne
          unfold allOf
          rw [mem]
          simp only [upd_self, List.map_nil, List.append_nil]
          unfold members
          rw [List.filterMap_eq_nil_iff]
          intro i hi
          cases hs : st.srv i with
          | none => exact inD_none hs
          | some s =>
            obtain ⟨d', p'⟩ := s
            rw [inD_some hs]
            have := ho.srv i (List.mem_range.1 hi) d' p' hs
            rw [if_neg (fun h => by omega)]
        · have ea : allOf { st with nd := st.nd + 1, dom := upd st.dom st.nd ⟨hard, cap, 0, []⟩ } e (-1) = allOf st e (-1) := by
            unfold allOf
            rw [mem]
            simp only [upd_ne _ _ _ h1]
          rw [ea] at hne ⊢
          simp only [upd_ne _ _ _ h1]
          exact h.pass e (by simp only at he; omega) hne
      · simp only [upd] at hoo
        split at hoo
        · cases hoo
        · exact h.late e (by simp only at he; omega) o hoo
theorem step_inv (h : LInv st) (ho : LOk st n) (o : LOp) : LInv (stepS st o).1 := by
  unfold stepS
  split
  · exact join_inv h _ _ _
  · split
    · exact change_inv h _ _
    · split
      · exact leave_inv h ho _ _
      · split
        · exact move_inv h ho _ _ _
        · split
          · exact go_inv h _
          · split
            · exact worker_inv h ho _ _
            · exact domain_inv h ho _ _
theorem run_inv : ∀ (l : List LOp) {st : LS} {n : Nat}, LInv st → LOk st n → LInv (runS st l)
  | [], _, _, h, _ => h
  | o :: l, _, _, h, ho => run_inv l (step_inv h ho o) (step_ok ho o)
theorem new_inv (k : Nat) : LInv (newLS k) := by
  refine ⟨fun d hd hne => absurd ?_ hne, fun d _ o ho => by simp [newLS] at ho⟩
  unfold allOf members
  simp only [newLS, List.map_nil, List.append_nil]
  rw [List.filterMap_eq_nil_iff]
  intro i _
  rfl
end
end Go.Proofs.Ytmcilmmnpolieaa
