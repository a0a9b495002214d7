/- What ledger.Go answers, and what it turns. The document's answer in memory: what it may be at all. What the document's answer tells of itself: its small functions. What the document's answer tells of params beside those of a domain. The document's answer's Join, Change: each leaves one behind. What ledger.Go answers where time goes on, and what it turns. Each theorem's premises are its conditions. -/
import Derived.Test.YtmcilmmnpolieaaK22
import Derived.Test.YtmcilmmnpolieaaK26
import Derived.BigQuiet
/- What ledger.Go answers, and what it turns. Each theorem's premises are its conditions. -/
namespace Go.Proofs.Ytmcilmmnpolieaa
open Go.ChangeShapes Go.WideShapes Go.ChangeAt Go.RowKit Go.Shelf Go.Deep

section
variable {w : World} {L : Lay} {st : LS} {n : Nat}
/-- the first k domains owe no more what is past. -/
def goneLS (st : LS) (now : Int) (k : Nat) : LS := { st with now := now, dom := fun i => if i < k then keepOw now (st.dom i) else st.dom i }
theorem sorted_filter {l : List Ow} {p : Ow → Bool} (h : SortedO l) : SortedO (l.filter p) := h.sublist List.filter_sublist
/-- a domain owes what is in another row. -/
theorem LAt.setOwed {w2 : World} {s : LS} (h : LAt w L s) {i : Nat} (hi : i < s.nd) {v' : Value} {l' l : List Ow} (ho : Only w w2 fun k => (L.ov i).ownBlock = some k) (hv : OwnsO w2 v' l') (hb : ∀ k, v'.ownBlock = some k → (L.ov i).ownBlock = some k ∨ w.heap.size ≤ k) (hp : l'.Perm l) (hs : SortedO l') :
    ∃ L', LAt (w2.setCell ⟨L.db i, 3, none⟩ v') L' { s with dom := upd s.dom i { s.dom i with owed := l } } ∧ Next w L (w2.setCell ⟨L.db i, 3, none⟩ v') L' ∧ L'.dv = L.dv ∧ L'.db = L.db ∧ L'.ov = upd L.ov i v' ∧ L'.ol = upd L.ol i l' := by
  have hD := h.dom i hi
  have hr := hD.role
  have lD := role_lt h hr
  have hsz : (w2.setCell ⟨L.db i, 3, none⟩ v').heap.size = w2.heap.size := World.size_setCell _ _ _
  have hvd : (L.ov i).ownBlock ≠ some (L.db i) := fun e => role_ne (hD.orole _ e) hr (by simp) rfl
  have hv'd : v'.ownBlock ≠ some (L.db i) := fun e => by
    rcases hb _ e with h1 | h1
    · exact hvd h1
    · omega
  have same : ∀ k r, L.role k = some r → r ≠ .dom i → r ≠ .owed i → Same w (w2.setCell ⟨L.db i, 3, none⟩ v') k := fun k r hk h1 h2 =>
    (Below.heap_setCell _ _ _ _ (role_ne hk hr h1)).trans (ho.block k (role_lt h hk) (fun e => role_ne hk (hD.orole _ e) h2 rfl))
  have sameD : Same w w2 (L.db i) := ho.block _ lD (fun e => hvd e)
  -- the new row's block bears its role
  obtain ⟨role', hrole'⟩ : ∃ role' : Nat → Option Role, role' = fun k => if v'.ownBlock = some k then some (.owed i) else L.role k := ⟨_, rfl⟩
  have keepR : ∀ k r, L.role k = some r → r ≠ .owed i → role' k = some r := fun k r hk h1 => by
    rw [hrole']
    simp only
    rw [if_neg (fun e => ?_)]
    · exact hk
    · rcases hb _ e with h2 | h2
      · exact role_ne hk (hD.orole _ h2) h1 rfl
      · have := role_lt h hk; omega
  have e : Ext w L (w2.setCell ⟨L.db i, 3, none⟩ v') { L with role := role', ov := upd L.ov i v', ol := upd L.ol i l' } (fun r => r = .dom i ∨ r = .owed i) := fun k r hk hr' =>
    ⟨keepR k r hk (fun h1 => hr' (.inr h1)), same k r hk (fun h1 => hr' (.inl h1)) (fun h1 => hr' (.inr h1))⟩
  have sv' : ∀ k, v'.ownBlock = some k → Same w2 (w2.setCell ⟨L.db i, 3, none⟩ v') k := fun k hk => Below.heap_setCell _ _ _ _ (fun e => hv'd (by rw [hk, e]))
  refine ⟨_, ⟨fun k hk => ?_, h.led.ext e (by simp) rfl rfl rfl fun _ _ => rfl, h.doms.ext e (by simp) rfl fun _ _ => rfl, h.wks.ext e (by simp) rfl fun _ _ => rfl, fun j hj => ?_, fun j hj => (h.mem j hj).ext e (by simp) rfl⟩, ⟨rfl, ?_, fun k hk => ?_⟩, rfl, rfl, rfl, rfl⟩
  · rw [hsz]
    simp only [hrole'] at hk
    split at hk
    · rename_i h1
      exact (hv.lt k h1).2
    · have := h.lt k hk; have := ho.size; omega
  · by_cases hji : j = i
    · subst hji
      simp only [upd_self]
      refine ⟨keepR _ _ hr (by simp), fun o => ?_, ?_, ?_, ?_, ?_, fun k hk => ?_, ?_, ?_, ?_⟩
      · rw [World.frozen?_setCell, sameD.froz]; exact hD.froz o
      · rw [set_other (by omega), sameD.cell]; exact hD.hard
      · rw [set_other (by omega), sameD.cell]; exact hD.cap
      · rw [set_other (by omega), sameD.cell]; exact hD.wk
      · simp only [upd_self]; exact World.cell?_setCell_same _ _ _ ((sameD.cell _).trans hD.ov)
      · simp only [upd_self] at hk; simp only [hrole', if_pos hk]
      · simp only [upd_self]; exact own_same hv sv'
      · simp only [upd_self]; exact hp
      · simp only [upd_self]; exact hs
    · simp only [upd_ne _ _ _ hji]
      exact (h.dom j hj).ext e (by simpa using hji) (by simpa using hji) rfl (upd_ne _ _ _ hji) (upd_ne _ _ _ hji)
  · have hmi : L.role (L.db i) ≠ none := by rw [hr]; exact fun e => by cases e
    have o1 : Only w w2 fun k => L.role k ≠ none := ⟨ho.os, ho.tape, ho.output, ho.size, fun k hk hs => ho.block k hk (fun e => hs (by rw [hD.orole _ e]; exact fun e => by cases e))⟩
    exact o1.set (.inl hmi) v'
  · simp only [hrole'] at hk
    split at hk
    · rename_i h1
      rcases hb _ h1 with h2 | h2
      · exact .inl (by rw [hD.orole _ h2]; exact fun e => by cases e)
      · exact .inr h2
    · exact .inl hk
theorem goneLS_zero (st : LS) (now : Int) : goneLS st now 0 = { st with now := now } := rfl
theorem goneLS_succ (st : LS) (now : Int) (k : Nat) : { goneLS st now k with dom := upd (goneLS st now k).dom k { (goneLS st now k).dom k with owed := (keepOw now (st.dom k)).owed } } = goneLS st now (k + 1) := by
  have e : upd (goneLS st now k).dom k { (goneLS st now k).dom k with owed := (keepOw now (st.dom k)).owed } = (goneLS st now (k + 1)).dom := by
    funext i
    unfold goneLS
    by_cases h : i = k
    · subst h
      rw [upd_self]
      simp only [if_neg (Nat.lt_irrefl i), if_pos (Nat.lt_succ_self i)]
      rfl
    · rw [upd_ne _ _ _ h]
      by_cases h2 : i < k
      · simp only [if_pos h2, if_pos (show i < k + 1 by omega)]
      · simp only [if_neg h2, if_neg (show ¬ i < k + 1 by omega)]
  exact congrArg (fun d => LS.mk now st.nd d st.nw st.wk st.srv) e
theorem gone_succ (now : Int) (dom : Nat → Dom) (k : Nat) : gone now dom (k + 1) = gone now dom k + ((dom k).owed.length - (keepOw now (dom k)).owed.length) := by
  unfold gone
  rw [List.range_succ, List.map_append, List.sum_append]
  simp
theorem gone_le (now : Int) (dom : Nat → Dom) {m : Nat} : ∀ {k : Nat}, (∀ i, i < k → (dom i).owed.length ≤ m) → gone now dom k ≤ k * m
  | 0, _ => by simp [gone]
  | k + 1, h => by
    rw [gone_succ, Nat.succ_mul]
    have := gone_le (m := m) now dom (k := k) fun i hi => h i (by omega)
    have := h k (by omega)
    omega
/-- what holds at the head of Go's loop. -/
structure GoAt (w : World) (B : Nat) (L : Lay) (st : LS) (now : Int) (k : Nat) (wr : World) (L' : Lay) : Prop where
  at_ : LAt wr L' (goneLS st now k)
  next : Next w L wr L'
  dv : L'.dv = L.dv
  db : L'.db = L.db
  box : wr.cell? ⟨B, 0, none⟩ = some (.int .i64 now)
  lt : B < w.heap.size
  off : L.role B = none
theorem GoAt.step {B : Nat} {now : Int} {k : Nat} {wr w2 : World} {L' : Lay} (h : GoAt w B L st now k wr L') (hk : k < st.nd) {v' : Value} {l' : List Ow} (he : l' = keepL now (L'.ol k)) (ho : Only wr w2 fun b => (L'.ov k).ownBlock = some b) (hv : OwnsO w2 v' l') (hb : ∀ b, v'.ownBlock = some b → (L'.ov k).ownBlock = some b) :
    ∃ L'', GoAt w B L st now (k + 1) (w2.setCell ⟨L.db k, 3, none⟩ v') L'' := by
  have hD := h.at_.dom k hk
  have hp : l'.Perm (keepOw now (st.dom k)).owed := by
    rw [he]
    have := hD.perm
    simp only [goneLS, if_neg (Nat.lt_irrefl k)] at this
    exact this.filter _
  obtain ⟨L'', h1, h2, h3, h4, _, _⟩ := h.at_.setOwed (i := k) hk ho hv (fun b e => .inl (hb b e)) hp (by rw [he]; exact sorted_filter hD.sorted)
  rw [h.db] at h1 h2
  rw [goneLS_succ] at h1
  have hrole : ∀ b r, L'.role b = some r → b ≠ B := fun b r hb' e => by
    subst e
    rcases h.next.role _ (by rw [hb']; exact fun e => by cases e) with h5 | h5
    · exact h5 h.off
    · have := h.lt; omega
  refine ⟨L'', h1, h.next.trans h2, h3.trans h.dv, h4.trans h.db, ?_, h.lt, h.off⟩
  rw [World.cell?_setCell_other _ _ _ _ (fun e => ?_)]
  · refine (World.cell?_of_block (ho.block _ (cell_lt h.box) (fun e => hrole _ _ (hD.orole _ e) rfl))).trans h.box
  · have := hD.role
    rw [h.db] at this
    exact hrole _ _ this (congrArg Addr.block e)
theorem bel_drewN {a w : World} (h : Below a.heap.size a w) (q : Nat) : Below a.heap.size a (w.drewN q) := ⟨h.os, h.tape, h.output, h.size, h.block⟩
set_option maxHeartbeats 1000000 in
theorem go_bad (h : LAt w L st) (now : Int) (hb : ¬ (clockS now = true ∧ st.now ≤ now)) : Calls Try.prog 13 #[.pointer (some ⟨L.g, 0, none⟩), .int .i64 now] w fun e w' => Turns w L st e (.tuple #[.int .i64 0, .int .i64 10]) w' := by
  have b1 := bel_alloc (Below.refl w.heap.size w) (o := .cells #[.int .i64 now] 3)
  have x := (h.below b1).led.now
  have lg := led_lt (h.below b1)
  have CK := Lib.hid (fun W => clock_any now W)
  have HL := Lib.hid h
  have HB := Lib.hid b1
  have lgw := led_lt h
  have R0 := Below.refl (w.alloc (.cells #[.int .i64 now] 3)).heap.size (w.alloc (.cells #[.int .i64 now] 3))
  have hd : Hid (clockS now = true → decide (now < st.now) = true) := fun hc => decide_eq_true (by
    apply Classical.byContradiction
    intro hle
    exact hb ⟨hc, by omega⟩)
  obtain ⟨g, hg⟩ : ∃ g, g = L.g := ⟨_, rfl⟩
  rw [← hg] at x lg lgw ⊢
  generalize st.now = sn at *
  generalize clockS now = b at *
  clear h b1 hg hb
  cases b with
  | false =>
    clear hd
    go_enter Try.func13, Try.ntmps13
    go_wp2_with fail
    go_cut [13] from 14 to 24 (fun s wx => s = .bool true ∧ Below (w.alloc (.cells #[.int .i64 now] 3)).heap.size (w.alloc (.cells #[.int .i64 now] 3)) wx)
    case first =>
      go_quiet ((go_at_call 31; exact Calls.quiet_of_same (CK.out _)))
      go_wp2_with fail
      go_meet
      exact ⟨rfl, bel_drewN R0 _⟩
    case rest =>
      obtain ⟨rfl, b2⟩ := hcut
      go_wp2_with fail
      go_ret2
      exact Turns.same HL.out (bel_end HB.out b2)
  | true =>
    have d1 := hd.out rfl
    clear hd
    go_enter Try.func13, Try.ntmps13
    go_wp2_with fail
    go_cut [13] from 14 to 24 (fun s wx => s = .bool true ∧ Below (w.alloc (.cells #[.int .i64 now] 3)).heap.size (w.alloc (.cells #[.int .i64 now] 3)) wx)
    case first =>
      go_quiet ((go_at_call 31; exact Calls.quiet_of_same (CK.out _)))
      go_wp2_with fail
      go_meet
      exact ⟨rfl, bel_drewN R0 _⟩
    case rest =>
      obtain ⟨rfl, b2⟩ := hcut
      go_wp2_with fail
      go_ret2
      exact Turns.same HL.out (bel_end HB.out b2)
end
end Go.Proofs.Ytmcilmmnpolieaa
/- The document's answer in memory: what it may be at all. Each theorem's premises are its conditions. -/
namespace Go.Proofs.Ytmcilmmnpolieaa
open Go.ChangeShapes Go.WideShapes Go.ChangeAt Go.RowKit

inductive XRole where
  | led
  | hard
  | cap
  | wks
  | owed
structure XLay where
  role : Nat → Option XRole
  g : Nat
  hv : Value
  cv : Value
  wb : Nat
  ov : Value
structure XS where
  nd : Nat
  now : Int
  hard : List Bool
  cap : List Int
  wk : Nat → Nat
  inn : Nat → Int
  p : Nat → Int
  cnt : Nat
  ow : List Int
def ints (l : List Int) : List Value := l.map (.int .i64)
def bools (l : List Bool) : List Value := l.map .bool
structure XAt (w : World) (X : XLay) (s : XS) : Prop where
  lt : ∀ k, X.role k ≠ none → k < w.heap.size
  rg : X.role X.g = some .led
  fg : ∀ o, w.frozen? ⟨X.g, o, none⟩ = false
  now : w.cell? ⟨X.g, 0, none⟩ = some (.int .i64 s.now)
  hv : w.cell? ⟨X.g, 1, none⟩ = some X.hv
  cv : w.cell? ⟨X.g, 2, none⟩ = some X.cv
  wv : w.cell? ⟨X.g, 3, none⟩ = some (.slice (some ⟨X.wb, 0, none⟩) 3 3)
  ov : w.cell? ⟨X.g, 260, none⟩ = some X.ov
  inn : ∀ i, i < 64 → w.cell? ⟨X.g, 4 + i, none⟩ = some (.int .i64 (s.inn i))
  p : ∀ j, j < 192 → w.cell? ⟨X.g, 68 + j, none⟩ = some (.int .i64 (s.p j))
  rh : ∀ k, X.hv.ownBlock = some k → X.role k = some .hard
  oh : w.ownsRow 0 4 1 X.hv s.nd (bools s.hard)
  rc : ∀ k, X.cv.ownBlock = some k → X.role k = some .cap
  oc : w.ownsRow 0 3 1 X.cv s.nd (ints s.cap)
  rw : X.role X.wb = some .wks
  fw : ∀ o, w.frozen? ⟨X.wb, o, none⟩ = false
  wk : ∀ i, i < 3 → w.cell? ⟨X.wb, i, none⟩ = some (.int .i64 (s.wk i : Nat))
  ro : ∀ k, X.ov.ownBlock = some k → X.role k = some .owed
  oo : w.ownsRow 0 113 6 X.ov s.cnt (ints s.ow)
  nd : 0 < s.nd ∧ s.nd ≤ 8
  wkr : ∀ i, i < 3 → s.wk i < s.nd
  innr : ∀ i, i < 64 → -1 ≤ s.inn i ∧ s.inn i < s.nd
section
variable {w w' : World} {X X' : XLay} {s : XS}
theorem XAt.role_lt (h : XAt w X s) {k : Nat} {r : XRole} (hk : X.role k = some r) : k < w.heap.size := h.lt k (by rw [hk]; exact fun e => by cases e)
theorem XAt.keep {S : Nat → Prop} (h : XAt w X s) (k : Only w w' S) (hS : ∀ b, X.role b ≠ none → ¬ S b) : XAt w' X s := by
  have same : ∀ b r, X.role b = some r → Same w w' b := fun b r hb => k.block b (h.role_lt hb) (hS b (by rw [hb]; exact fun e => by cases e))
  have sg := same _ _ h.rg
  have sw := same _ _ h.rw
  exact ⟨fun b hb => Nat.lt_of_lt_of_le (h.lt b hb) k.size, h.rg, fun o => (sg.froz o).trans (h.fg o), (sg.cell _).trans h.now, (sg.cell _).trans h.hv, (sg.cell _).trans h.cv, (sg.cell _).trans h.wv, (sg.cell _).trans h.ov,
    fun i hi => (sg.cell _).trans (h.inn i hi), fun j hj => (sg.cell _).trans (h.p j hj), h.rh, own_same h.oh fun b hb => same b _ (h.rh b hb), h.rc, own_same h.oc fun b hb => same b _ (h.rc b hb), h.rw,
    fun o => (sw.froz o).trans (h.fw o), fun i hi => (sw.cell _).trans (h.wk i hi), h.ro, own_same h.oo fun b hb => same b _ (h.ro b hb), h.nd, h.wkr, h.innr⟩
theorem XAt.below (h : XAt w X s) (k : Below w.heap.size w w') : XAt w' X s := h.keep (S := fun _ => False) (Only.of_below k) fun _ _ h => h
structure XNext (w : World) (X : XLay) (w' : World) (X' : XLay) : Prop where
  g : X'.g = X.g
  only : Only w w' fun k => X.role k ≠ none
  role : ∀ k, X'.role k ≠ none → X.role k ≠ none ∨ w.heap.size ≤ k
theorem XNext.of_below (X : XLay) (h : Below w.heap.size w w') : XNext w X w' X := ⟨rfl, Only.of_below h, fun _ h => .inl h⟩
theorem XNext.trans {w'' : World} {X'' : XLay} (h : XNext w X w' X') (k : XNext w' X' w'' X'') : XNext w X w'' X'' :=
  ⟨k.g.trans h.g, h.only.trans k.only fun i hi hlt => (h.role i hi).resolve_right (by omega), fun i hi => by
    rcases k.role i hi with h1 | h1
    · exact h.role i h1
    · exact .inr (Nat.le_trans h.only.size h1)⟩
/-- what is called with the document's answer leaves one behind, with no more owed than one thing more. -/
def XKeep (w : World) (X : XLay) (s : XS) (w' : World) : Prop := ∃ X' s', XAt w' X' s' ∧ XNext w X w' X' ∧ s'.cnt ≤ s.cnt + 1 ∧ s.nd ≤ s'.nd
def XTurn (w : World) (X : XLay) (s : XS) (e : Ending) (w' : World) : Prop := (∃ z : Int, e = .returned (.int .i64 z)) ∧ XKeep w X s w'
theorem XKeep.same (h : XAt w X s) (k : Below w.heap.size w w') : XKeep w X s w' := ⟨X, s, h.below k, XNext.of_below X k, by omega, Nat.le_refl _⟩
theorem x_ne {k j : Nat} {r t : XRole} (hk : X.role k = some r) (hj : X.role j = some t) (hrt : r ≠ t) : k ≠ j := fun e => by
  subst e; rw [hk] at hj; exact hrt (Option.some.inj hj)
/-- a cell of the answer's own block is another number. -/
theorem XAt.setIn (h : XAt w X s) {i : Nat} (hi : i < 64) (z : Int) (hz : -1 ≤ z ∧ z < s.nd) : XAt (w.setCell ⟨X.g, 4 + i, none⟩ (.int .i64 z)) X { s with inn := upd s.inn i z } := by
  have same : ∀ b r, X.role b = some r → r ≠ .led → Same w (w.setCell ⟨X.g, 4 + i, none⟩ (.int .i64 z)) b := fun b r hb hr => Below.heap_setCell _ _ _ _ (x_ne hb h.rg hr)
  have sw := same _ _ h.rw (by simp)
  refine ⟨fun b hb => by rw [World.size_setCell]; exact h.lt b hb, h.rg, fun o => by rw [World.frozen?_setCell]; exact h.fg o, ?_, ?_, ?_, ?_, ?_, fun j hj => ?_, fun j hj => ?_, h.rh, own_same h.oh fun b hb => same b _ (h.rh b hb) (by simp), h.rc, own_same h.oc fun b hb => same b _ (h.rc b hb) (by simp), h.rw,
    fun o => (sw.froz o).trans (h.fw o), fun i hi => (sw.cell _).trans (h.wk i hi), h.ro, own_same h.oo fun b hb => same b _ (h.ro b hb) (by simp), h.nd, h.wkr, fun j hj => ?_⟩
  · rw [set_other (by omega)]; exact h.now
  · rw [set_other (by omega)]; exact h.hv
  · rw [set_other (by omega)]; exact h.cv
  · rw [set_other (by omega)]; exact h.wv
  · rw [set_other (by omega)]; exact h.ov
  · by_cases e : j = i
    · subst e; simp only [upd_self]; exact World.cell?_setCell_same _ _ _ (h.inn j hj)
    · simp only [upd_ne _ _ _ e]; rw [set_other (by omega)]; exact h.inn j hj
  · rw [set_other (by omega)]; exact h.p j hj
  · by_cases e : j = i
    · subst e; simp only [upd_self]; exact hz
    · simp only [upd_ne _ _ _ e]; exact h.innr j hj
theorem XAt.setP (h : XAt w X s) {i : Nat} (hi : i < 192) (z : Int) : XAt (w.setCell ⟨X.g, 68 + i, none⟩ (.int .i64 z)) X { s with p := upd s.p i z } := by
  have same : ∀ b r, X.role b = some r → r ≠ .led → Same w (w.setCell ⟨X.g, 68 + i, none⟩ (.int .i64 z)) b := fun b r hb hr => Below.heap_setCell _ _ _ _ (x_ne hb h.rg hr)
  have sw := same _ _ h.rw (by simp)
  refine ⟨fun b hb => by rw [World.size_setCell]; exact h.lt b hb, h.rg, fun o => by rw [World.frozen?_setCell]; exact h.fg o, ?_, ?_, ?_, ?_, ?_, fun j hj => ?_, fun j hj => ?_, h.rh, own_same h.oh fun b hb => same b _ (h.rh b hb) (by simp), h.rc, own_same h.oc fun b hb => same b _ (h.rc b hb) (by simp), h.rw,
    fun o => (sw.froz o).trans (h.fw o), fun i hi => (sw.cell _).trans (h.wk i hi), h.ro, own_same h.oo fun b hb => same b _ (h.ro b hb) (by simp), h.nd, h.wkr, h.innr⟩
  · rw [set_other (by omega)]; exact h.now
  · rw [set_other (by omega)]; exact h.hv
  · rw [set_other (by omega)]; exact h.cv
  · rw [set_other (by omega)]; exact h.wv
  · rw [set_other (by omega)]; exact h.ov
  · rw [set_other (by omega)]; exact h.inn j hj
  · by_cases e : j = i
    · subst e; simp only [upd_self]; exact World.cell?_setCell_same _ _ _ (h.p j hj)
    · simp only [upd_ne _ _ _ e]; rw [set_other (by omega)]; exact h.p j hj
theorem XAt.setNow (h : XAt w X s) (z : Int) : XAt (w.setCell ⟨X.g, 0, none⟩ (.int .i64 z)) X { s with now := z } := by
  have same : ∀ b r, X.role b = some r → r ≠ .led → Same w (w.setCell ⟨X.g, 0, none⟩ (.int .i64 z)) b := fun b r hb hr => Below.heap_setCell _ _ _ _ (x_ne hb h.rg hr)
  have sw := same _ _ h.rw (by simp)
  refine ⟨fun b hb => by rw [World.size_setCell]; exact h.lt b hb, h.rg, fun o => by rw [World.frozen?_setCell]; exact h.fg o, World.cell?_setCell_same _ _ _ h.now, ?_, ?_, ?_, ?_, fun j hj => ?_, fun j hj => ?_, h.rh, own_same h.oh fun b hb => same b _ (h.rh b hb) (by simp), h.rc, own_same h.oc fun b hb => same b _ (h.rc b hb) (by simp), h.rw,
    fun o => (sw.froz o).trans (h.fw o), fun i hi => (sw.cell _).trans (h.wk i hi), h.ro, own_same h.oo fun b hb => same b _ (h.ro b hb) (by simp), h.nd, h.wkr, h.innr⟩
  · rw [set_other (by omega)]; exact h.hv
  · rw [set_other (by omega)]; exact h.cv
  · rw [set_other (by omega)]; exact h.wv
  · rw [set_other (by omega)]; exact h.ov
  · rw [set_other (by omega)]; exact h.inn j hj
  · rw [set_other (by omega)]; exact h.p j hj
theorem XAt.setWkr (h : XAt w X s) {i : Nat} (hi : i < 3) (d : Nat) (hd : d < s.nd) : XAt (w.setCell ⟨X.wb, i, none⟩ (.int .i64 (d : Nat))) X { s with wk := upd s.wk i d } := by
  have same : ∀ b r, X.role b = some r → r ≠ .wks → Same w (w.setCell ⟨X.wb, i, none⟩ (.int .i64 (d : Nat))) b := fun b r hb hr => Below.heap_setCell _ _ _ _ (x_ne hb h.rw hr)
  have sg := same _ _ h.rg (by simp)
  refine ⟨fun b hb => by rw [World.size_setCell]; exact h.lt b hb, h.rg, fun o => (sg.froz o).trans (h.fg o), (sg.cell _).trans h.now, (sg.cell _).trans h.hv, (sg.cell _).trans h.cv, (sg.cell _).trans h.wv, (sg.cell _).trans h.ov,
    fun i hi => (sg.cell _).trans (h.inn i hi), fun j hj => (sg.cell _).trans (h.p j hj), h.rh, own_same h.oh fun b hb => same b _ (h.rh b hb) (by simp), h.rc, own_same h.oc fun b hb => same b _ (h.rc b hb) (by simp), h.rw,
    fun o => by rw [World.frozen?_setCell]; exact h.fw o, fun j hj => ?_, h.ro, own_same h.oo fun b hb => same b _ (h.ro b hb) (by simp), h.nd, fun j hj => ?_, h.innr⟩
  · by_cases e : j = i
    · subst e; simp only [upd_self]; exact World.cell?_setCell_same _ _ _ (h.wk j hj)
    · simp only [upd_ne _ _ _ e]; rw [set_other e]; exact h.wk j hj
  · by_cases e : j = i
    · subst e; simp only [upd_self]; exact hd
    · simp only [upd_ne _ _ _ e]; exact h.wkr j hj
theorem xnext_set {b o : Nat} {r : XRole} (hb : X.role b = some r) (v : Value) : XNext w X (w.setCell ⟨b, o, none⟩ v) X :=
  ⟨rfl, (Only.refl _ _).set (.inl (by show X.role b ≠ none; rw [hb]; exact fun e => by cases e)) v, fun _ h => .inl h⟩
end
end Go.Proofs.Ytmcilmmnpolieaa
/- What the document's answer tells of itself: its small functions. Each theorem's premises are its conditions. -/
namespace Go.Proofs.Ytmcilmmnpolieaa
open Go.ChangeShapes Go.WideShapes Go.ChangeAt Go.RowKit Go.Shelf Go.Deep

theorem xserver_any (n : Int) (w : World) : Calls Try.prog 60 #[.int .i64 n] w fun e w' => e = .returned (.bool (decide (0 ≤ n) && decide (n < 64))) ∧ w' = w := by
  by_cases h1 : 0 ≤ n <;> by_cases h2 : n < 64
  all_goals
    first | have d1 : decide (0 ≤ n) = true := decide_eq_true h1 | have d1 : decide (0 ≤ n) = false := decide_eq_false h1
    first | have d2 : decide (n < 64) = true := decide_eq_true h2 | have d2 : decide (n < 64) = false := decide_eq_false h2
    clear h1 h2
    go_enter Try.func60, Try.ntmps60
    go_wp2_with fail
    go_ret
    exact ⟨ret1 (by rw [d1, d2]; rfl), rfl⟩
theorem xclock_any (n : Int) (w : World) : Calls Try.prog 62 #[.int .i64 n] w fun e w' => e = .returned (.bool (clockS n)) ∧ w' = w := by
  unfold clockS
  by_cases h1 : 0 ≤ n <;> by_cases h2 : n < 1099511627776
  all_goals
    first | have d1 : decide (0 ≤ n) = true := decide_eq_true h1 | have d1 : decide (0 ≤ n) = false := decide_eq_false h1
    first | have d2 : decide (n < 1099511627776) = true := decide_eq_true h2 | have d2 : decide (n < 1099511627776) = false := decide_eq_false h2
    clear h1 h2
    go_enter Try.func62, Try.ntmps62
    go_wp2_with fail
    go_ret
    exact ⟨ret1 (by rw [d1, d2]; rfl), rfl⟩
section
variable {w : World} {X : XLay} {s : XS}
theorem XAt.glt (h : XAt w X s) : X.g < w.heap.size := h.role_lt h.rg
theorem xcap_shape (h : XAt w X s) : ∃ b cap, X.cv = .slice (some ⟨b, 0, none⟩) s.nd cap ∧ b < w.heap.size ∧ s.nd ≤ cap ∧ ∀ i, i < s.nd → ∃ z : Int, w.cell? ⟨b, i, none⟩ = some (.int .i64 z) := by
  obtain ⟨hl, ⟨_, h1⟩ | ⟨g, cap, cur, e, hB, hg, hn, _, hs, hc⟩⟩ := h.oc
  · have := h.nd.1; omega
  refine ⟨g, cap, e, (Array.getElem?_eq_some_iff.1 hg).1, hn, fun i hi => ?_⟩
  have hi' : i < (ints s.cap).length := by rw [hl]; omega
  have hi2 : i < s.cap.length := by simpa [ints] using hi'
  refine ⟨s.cap[i], ?_⟩
  have h1 : (ints s.cap)[i]? = some (.int .i64 s.cap[i]) := by simp [ints, hi2]
  rw [← hc, List.getElem?_take] at h1
  split at h1
  · simp only [World.cell?, hg]
    simpa using h1
  · cases h1
theorem xhard_shape (h : XAt w X s) : ∃ b cap, X.hv = .slice (some ⟨b, 0, none⟩) s.nd cap ∧ b < w.heap.size ∧ s.nd ≤ cap ∧ ∀ i, i < s.nd → ∃ z : Bool, w.cell? ⟨b, i, none⟩ = some (.bool z) := by
  obtain ⟨hl, ⟨_, h1⟩ | ⟨g, cap, cur, e, hB, hg, hn, _, hs, hc⟩⟩ := h.oh
  · have := h.nd.1; omega
  refine ⟨g, cap, e, (Array.getElem?_eq_some_iff.1 hg).1, hn, fun i hi => ?_⟩
  have hi' : i < (bools s.hard).length := by rw [hl]; omega
  have hi2 : i < s.hard.length := by simpa [bools] using hi'
  refine ⟨s.hard[i], ?_⟩
  have h1 : (bools s.hard)[i]? = some (.bool s.hard[i]) := by simp [bools, hi2]
  rw [← hc, List.getElem?_take] at h1
  split at h1
  · simp only [World.cell?, hg]
    simpa using h1
  · cases h1
theorem xowed_shape (h : XAt w X s) : ∃ a cap, X.ov = .slice a s.cnt cap ∧ s.cnt ≤ cap ∧ ∀ k, k < s.cnt → ∃ b, a = some ⟨b, 0, none⟩ ∧ b < w.heap.size ∧ ∀ c, c < 6 → ∃ z : Int, w.cell? ⟨b, k * 6 + c, none⟩ = some (.int .i64 z) := by
  obtain ⟨hl, ⟨e, h1⟩ | ⟨g, cap, cur, e, hB, hg, hn, _, hs, hc⟩⟩ := h.oo
  · exact ⟨none, 0, by rw [e, h1], by omega, fun k hk => by omega⟩
  refine ⟨_, cap, e, hn, fun k hk => ⟨g, rfl, (Array.getElem?_eq_some_iff.1 hg).1, fun c hc' => ?_⟩⟩
  have hi' : k * 6 + c < (ints s.ow).length := by rw [hl]; omega
  have hi2 : k * 6 + c < s.ow.length := by simpa [ints] using hi'
  refine ⟨s.ow[k * 6 + c], ?_⟩
  have h1 : (ints s.ow)[k * 6 + c]? = some (.int .i64 s.ow[k * 6 + c]) := by simp [ints, hi2]
  rw [← hc, List.getElem?_take] at h1
  split at h1
  · simp only [World.cell?, hg]
    simpa using h1
  · cases h1
theorem xthere_any (h : XAt w X s) (d : Int) : Calls Try.prog 63 #[.pointer (some ⟨X.g, 0, none⟩), .int .i64 d] w fun e w' => e = .returned (.bool (decide (0 ≤ d) && decide (d < s.nd))) ∧ w' = w := by
  obtain ⟨b, cap, ecv, hb, hc, _⟩ := xcap_shape h
  have x := h.cv
  rw [ecv] at x
  have lg := h.glt
  generalize X.g = g at *
  generalize s.nd = nd at *
  clear h ecv
  by_cases h1 : 0 ≤ d <;> by_cases h2 : d < nd
  all_goals
    first | have d1 : decide (0 ≤ d) = true := decide_eq_true h1 | have d1 : decide (0 ≤ d) = false := decide_eq_false h1
    first | have d2 : decide (d < nd) = true := decide_eq_true h2 | have d2 : decide (d < nd) = false := decide_eq_false h2
    clear h1 h2
    go_enter Try.func63, Try.ntmps63
    go_wp2_with fail
    go_ret
    exact ⟨ret1 (by rw [d1, d2]; rfl), rfl⟩
set_option maxHeartbeats 1000000 in
theorem xmany_any (h : XAt w X s) (d : Int) : Calls Try.prog 65 #[.pointer (some ⟨X.g, 0, none⟩), .int .i64 d] w fun e w' => (∃ k : Nat, k ≤ 3 ∧ e = .returned (.int .i64 k)) ∧ w' = w := by
  have x := h.wv
  have lg := h.glt
  have lwb := h.role_lt h.rw
  have w0 := h.wk 0 (by omega)
  have w1 := h.wk 1 (by omega)
  have w2 := h.wk 2 (by omega)
  generalize X.g = g at *
  generalize X.wb = wb at *
  generalize ((s.wk 0 : Nat) : Int) = z0 at *
  generalize ((s.wk 1 : Nat) : Int) = z1 at *
  generalize ((s.wk 2 : Nat) : Int) = z2 at *
  clear h
  cases c0 : (z0 == d) <;> cases c1 : (z1 == d) <;> cases c2 : (z2 == d)
  all_goals
    go_enter Try.func65, Try.ntmps65
    go_wp2_with fail
    refine wp_loop_rounds 4 ?_
    rw [rounds_succ]
    go_wp2_with fail
    rw [rounds_succ]
    go_wp2_with fail
    rw [rounds_succ]
    go_wp2_with fail
    rw [rounds_succ]
    go_wp2_with fail
    go_ret
    first
      | exact ⟨⟨0, by omega, rfl⟩, rfl⟩
      | exact ⟨⟨1, by omega, rfl⟩, rfl⟩
      | exact ⟨⟨2, by omega, rfl⟩, rfl⟩
      | exact ⟨⟨3, by omega, rfl⟩, rfl⟩
set_option maxHeartbeats 4000000 in
theorem xall_any (h : XAt w X s) (hc : s.cnt ≤ 900) (d but : Int) : Calls Try.prog 64 #[.pointer (some ⟨X.g, 0, none⟩), .int .i64 d, .int .i64 but] w fun e w' => ∃ a c ps, e = .returned (.slice a ps.length c) ∧ Owns w' w.heap.size (.slice a ps.length c) ps ∧ ps.length ≤ 964 ∧ Below w.heap.size w w' := by
  obtain ⟨i0, hi, hz0, hz1, hz2⟩ := info_parts Try.infoParams
  have HX := Lib.hid h
  obtain ⟨oa, ocap, eov, hoc, hrow⟩ := xowed_shape h
  have HR := Lib.hid hrow
  have HE := Lib.hid eov
  have lg0 := h.glt
  generalize hcn : s.cnt = cnt at *
  obtain ⟨g, hg⟩ : ∃ g, g = X.g := ⟨_, rfl⟩
  rw [← hg] at lg0 ⊢
  have HG := Lib.hid hg
  have HCN := Lib.hid hcn
  clear h hrow eov hg hcn
  go_enter Try.func64, Try.ntmps64
  go_wp2_with fail
  go_loopg [7, 8] 64 (fun kx s7 s8 wr => ∃ (k : Nat) (a : Option Addr) (c : Nat) (ps : List P3), s8 = .int .i64 k ∧ s7 = .slice a ps.length c ∧ k ≤ 64 ∧ 64 - k ≤ kx ∧ ps.length ≤ k ∧ Hid (Owns wr w.heap.size (.slice a ps.length c) ps ∧ Below w.heap.size w wr))
  case atStart => exact ⟨0, none, 0, [], rfl, rfl, by omega, by omega, by simp, own_nil _ _, Below.refl _ _⟩
  case round =>
    obtain ⟨k, a, c, ps, rfl, rfl, hk, hkx, hpl, HI⟩ := hrel
    have hX1 := HX.out.below HI.out.2
    by_cases hlt : k < 64
    · have hltz : (k : Int) < 64 := by omega
      have x := hX1.inn k hlt
      have p0 := hX1.p (k * 3) (by omega)
      have p1 := hX1.p (k * 3 + 1) (by omega)
      have p2 := hX1.p (k * 3 + 2) (by omega)
      have lg := hX1.glt
      have hsz := HI.out.2.size
      rw [← HG.out] at x p0 p1 p2 lg
      simp only [← Nat.add_assoc] at p1 p2
      generalize s.inn k = z at *
      generalize s.p (k * 3) = z0 at *
      generalize s.p (k * 3 + 1) = z1 at *
      generalize s.p (k * 3 + 2) = z2 at *
      clear hX1
      by_cases hc1 : z = d ∧ ¬ (k : Int) = but
      · have d1 : (z == d) = true := by rw [beq_iff_eq]; exact hc1.1
        have d2 : ((k : Int) != but) = true := by rw [bne_iff_ne]; exact hc1.2
        clear hc1
        go_wp2_with (at_builtin; (refine wpList_append_own _ rfl _ _ 50 rfl w.heap.size 24 i0 (.agg #[.int .i64 0, .int .i64 0, .int .i64 0]) 3 24 Try.underlying50 hi hz0 hz1 hz2 rfl (by decide) _ _ _ rfl (HI.out.1.alloc _) ⟨wr.heap.size, 0, none⟩ 1 1 (pcells [(z0, z1, z2)]) rfl rfl (SeqG.new_row3 (z0, z1, z2) wr) (pcells_one _) (by unfold maxLen; omega) (by omega) (by simp; omega) ?_); intro v' w3 hown hgrow _; obtain ⟨a3, n3, c3, rfl⟩ := SeqG.own_slice hown; have HW := Lib.hid hown; have HGR := Lib.hid hgrow; clear hown hgrow)
        have hB3 : Below w.heap.size w w3 := app_below (HI.out.2.alloc hsz _) (Nat.le_refl _) (by simp; omega) (B := w.heap.size) (HI.out.1) HGR.out
        have hn3 : n3 = (ps ++ [(z0, z1, z2)]).length := by
          obtain ⟨_, ⟨e, e0⟩ | ⟨_, _, _, e, _⟩⟩ := HW.out <;> cases e <;> simp_all
        subst hn3
        have HF : Hid (Owns w3 w.heap.size (.slice a3 (ps ++ [(z0, z1, z2)]).length c3) (ps ++ [(z0, z1, z2)])) := app_owns HW.out
        go_roundg (64 - (k + 1))
        case measure => omega
        case rel => exact ⟨k + 1, a3, c3, _, by first | rfl | (congr 1; done) | (congr 1; omega) | (simp; omega), rfl, by omega, Nat.le_refl _, by simp; omega, HF.out, hB3⟩
      · have hc2 : (z == d && ((k : Int) != but)) = false := by
          rw [Bool.and_eq_false_iff, beq_eq_false_iff_ne, bne_eq_false_iff_eq]
          by_cases e : z = d
          · exact .inr (Classical.byContradiction fun hn => hc1 ⟨e, hn⟩)
          · exact .inl e
        clear hc1
        cases d1 : (z == d) with
        | false =>
          go_wp2_with fail
          go_roundg (64 - (k + 1))
          case measure => omega
          case rel => exact ⟨k + 1, a, c, ps, by first | rfl | (congr 1; done) | (congr 1; omega) | (simp; omega), rfl, by omega, Nat.le_refl _, by omega, HI.out⟩
        | true =>
          rw [d1, Bool.true_and] at hc2
          go_wp2_with fail
          go_roundg (64 - (k + 1))
          case measure => omega
          case rel => exact ⟨k + 1, a, c, ps, by first | rfl | (congr 1; done) | (congr 1; omega) | (simp; omega), rfl, by omega, Nat.le_refl _, by omega, HI.out⟩
    · obtain rfl : k = 64 := by omega
      clear hX1
      go_wp2_with fail
      obtain ⟨ws, hws⟩ : ∃ ws, ws = wr := ⟨_, rfl⟩
      rw [← hws] at HI ⊢
      clear hws
      have HI0 := Lib.hid HI.out
      go_loopg [7, 9] cnt (fun kx s7 s9 wr => ∃ (k : Nat) (a : Option Addr) (c : Nat) (ps : List P3), s9 = .int .i64 k ∧ s7 = .slice a ps.length c ∧ k ≤ cnt ∧ cnt - k ≤ kx ∧ ps.length ≤ 64 + k ∧ Hid (Owns wr w.heap.size (.slice a ps.length c) ps ∧ Below w.heap.size w wr))
      case atStart => exact ⟨0, a, c, ps, rfl, rfl, by omega, by omega, by omega, HI0.out⟩
      case round =>
        clear HI HI0 hpl
        obtain ⟨k, a, c, ps, rfl, rfl, hk, hkx, hpl, HI⟩ := hrel
        have hX1 := HX.out.below HI.out.2
        have xov := hX1.ov
        have lg := hX1.glt
        rw [HE.out] at xov
        rw [← HG.out] at xov lg
        clear hX1
        have hsz := HI.out.2.size
        by_cases hlt : k < cnt
        · have hltz : (k : Int) < (cnt : Int) := by omega
          obtain ⟨b, rfl, hb, hz⟩ := HR.out k hlt
          have hbb : Same w wr b := HI.out.2.block b hb
          have lb : b < wr.heap.size := by omega
          obtain ⟨zd, y1⟩ := hz 1 (by omega)
          obtain ⟨z0, y3⟩ := hz 3 (by omega)
          obtain ⟨z1, y4⟩ := hz 4 (by omega)
          obtain ⟨z2, y5⟩ := hz 5 (by omega)
          have y1 := (hbb.cell _).trans y1
          have y3 := (hbb.cell _).trans y3
          have y4 := (hbb.cell _).trans y4
          have y5 := (hbb.cell _).trans y5
          clear hz hbb
          cases d1 : (zd == d) with
          | true =>
            go_wp2_with (at_builtin; (refine wpList_append_own _ rfl _ _ 50 rfl w.heap.size 24 i0 (.agg #[.int .i64 0, .int .i64 0, .int .i64 0]) 3 24 Try.underlying50 hi hz0 hz1 hz2 rfl (by decide) _ _ _ rfl (HI.out.1.alloc _) ⟨wr.heap.size, 0, none⟩ 1 1 (pcells [(z0, z1, z2)]) rfl rfl (SeqG.new_row3 (z0, z1, z2) wr) (pcells_one _) (by unfold maxLen; omega) (by omega) (by simp; omega) ?_); intro v' w3 hown hgrow _; obtain ⟨a3, n3, c3, rfl⟩ := SeqG.own_slice hown; have HW := Lib.hid hown; have HGR := Lib.hid hgrow; clear hown hgrow)
            have hB3 : Below w.heap.size w w3 := app_below (HI.out.2.alloc hsz _) (Nat.le_refl _) (by simp; omega) (B := w.heap.size) (HI.out.1) HGR.out
            have hn3 : n3 = (ps ++ [(z0, z1, z2)]).length := by
              obtain ⟨_, ⟨e, e0⟩ | ⟨_, _, _, e, _⟩⟩ := HW.out <;> cases e <;> simp_all
            subst hn3
            have HF : Hid (Owns w3 w.heap.size (.slice a3 (ps ++ [(z0, z1, z2)]).length c3) (ps ++ [(z0, z1, z2)])) := app_owns HW.out
            go_roundg (cnt - (k + 1))
            case measure => omega
            case rel => exact ⟨k + 1, a3, c3, _, by first | rfl | (congr 1; done) | (congr 1; omega) | (simp; omega), rfl, by omega, Nat.le_refl _, by simp; omega, HF.out, hB3⟩
          | false =>
            go_wp2_with fail
            go_roundg (cnt - (k + 1))
            case measure => omega
            case rel => exact ⟨k + 1, a, c, ps, by first | rfl | (congr 1; done) | (congr 1; omega) | (simp; omega), rfl, by omega, Nat.le_refl _, by omega, HI.out⟩
        · obtain rfl : k = cnt := by omega
          have hge : ¬ (k : Int) < (k : Int) := by omega
          go_wp2_with fail
          go_ret
          exact ⟨a, c, ps, rfl, HI.out.1, by omega, HI.out.2⟩
end
end Go.Proofs.Ytmcilmmnpolieaa
/- What the document's answer tells of params beside those of a domain. Each theorem's premises are its conditions. -/
namespace Go.Proofs.Ytmcilmmnpolieaa
open Go.ChangeShapes Go.WideShapes Go.ChangeAt Go.RowKit Go.Shelf Go.Deep

section
variable {w : World} {X : XLay} {s : XS}
/-- what Passes reads. -/
structure XRead (w : World) (g hb hc cb cc nd k b : Nat) (zh : Bool) (zc : Int) (p : P3) : Prop where
  h1 : w.cell? ⟨g, 1, none⟩ = some (.slice (some ⟨hb, 0, none⟩) nd hc)
  h2 : w.cell? ⟨hb, k, none⟩ = some (.bool zh)
  h3 : w.cell? ⟨g, 2, none⟩ = some (.slice (some ⟨cb, 0, none⟩) nd cc)
  h4 : w.cell? ⟨cb, k, none⟩ = some (.int .i64 zc)
  h5 : w.cell? ⟨b, 0, none⟩ = some (.int .i64 p.1)
  h6 : w.cell? ⟨b, 1, none⟩ = some (.int .i64 p.2.1)
  h7 : w.cell? ⟨b, 2, none⟩ = some (.int .i64 p.2.2)
theorem XRead.below {w' : World} {g hb hc cb cc nd k b : Nat} {zh : Bool} {zc : Int} {p : P3} (h : XRead w g hb hc cb cc nd k b zh zc p) (j : Below w.heap.size w w') : XRead w' g hb hc cb cc nd k b zh zc p :=
  ⟨(j.cell (cell_lt h.h1)).trans h.h1, (j.cell (cell_lt h.h2)).trans h.h2, (j.cell (cell_lt h.h3)).trans h.h3, (j.cell (cell_lt h.h4)).trans h.h4, (j.cell (cell_lt h.h5)).trans h.h5, (j.cell (cell_lt h.h6)).trans h.h6, (j.cell (cell_lt h.h7)).trans h.h7⟩
theorem xread_and {g hb hc cb cc nd k b : Nat} {zh : Bool} {zc : Int} {p : P3} (h : XRead w g hb hc cb cc nd k b zh zc p) :
    w.cell? ⟨g, 1, none⟩ = some (.slice (some ⟨hb, 0, none⟩) nd hc) ∧ w.cell? ⟨hb, k, none⟩ = some (.bool zh) ∧ w.cell? ⟨g, 2, none⟩ = some (.slice (some ⟨cb, 0, none⟩) nd cc) ∧ w.cell? ⟨cb, k, none⟩ = some (.int .i64 zc) ∧ w.cell? ⟨b, 0, none⟩ = some (.int .i64 p.1) ∧ w.cell? ⟨b, 1, none⟩ = some (.int .i64 p.2.1) ∧ w.cell? ⟨b, 2, none⟩ = some (.int .i64 p.2.2) :=
  ⟨h.h1, h.h2, h.h3, h.h4, h.h5, h.h6, h.h7⟩
set_option maxRecDepth 100000 in
set_option maxHeartbeats 4000000 in
theorem xpasses_any (h : XAt w X s) (hcn : s.cnt ≤ 900) (d but : Int) (p : P3) : Calls Try.prog 61 #[.pointer (some ⟨X.g, 0, none⟩), .int .i64 d, .int .i64 but, .agg #[.int .i64 p.1, .int .i64 p.2.1, .int .i64 p.2.2]] w
    fun e w' => (∃ z : Int, e = .returned (.int .i64 z) ∧ (z = 0 → 0 ≤ d ∧ d < s.nd)) ∧ Below w.heap.size w w' := by
  obtain ⟨i0, hi, hz0, hz1, hz2⟩ := info_parts Try.infoParams
  have b1 := bel_alloc (Below.refl w.heap.size w) (o := .cells #[.int .i64 p.1, .int .i64 p.2.1, .int .i64 p.2.2] 24)
  have h1 := h.below b1
  have TH := Lib.hid (xthere_any h1 d)
  have MA := Lib.hid (xmany_any h1 d)
  have HB := Lib.hid b1
  by_cases hd : 0 ≤ d ∧ d < s.nd
  · obtain ⟨k, rfl⟩ : ∃ k : Nat, d = k := ⟨d.toNat, by omega⟩
    have hk : k < s.nd := by omega
    have hkz : (k : Int) < (s.nd : Int) := by omega
    rw [decide_eq_true hd.1, decide_eq_true hd.2] at TH
    have AL := Lib.hid (fun W (j : Below (w.alloc (.cells #[.int .i64 p.1, .int .i64 p.2.1, .int .i64 p.2.2] 24)).heap.size (w.alloc (.cells #[.int .i64 p.1, .int .i64 p.2.1, .int .i64 p.2.2] 24)) W) => xall_any (h1.below j) hcn k but)
    obtain ⟨hb, hc, ehv, hlb, hlc, hhc⟩ := xhard_shape h1
    obtain ⟨cb, cc, ecv, clb, clc, hcc⟩ := xcap_shape h1
    obtain ⟨zh, yh⟩ := hhc k hk
    obtain ⟨zc, yc⟩ := hcc k hk
    have xh := h1.hv
    have xc := h1.cv
    rw [ehv] at xh
    rw [ecv] at xc
    have lg := h1.glt
    have HS := Lib.hid (fun W (j : Below (w.alloc (.cells #[.int .i64 p.1, .int .i64 p.2.1, .int .i64 p.2.2] 24)).heap.size (w.alloc (.cells #[.int .i64 p.1, .int .i64 p.2.1, .int .i64 p.2.2] 24)) W) => XRead.below (⟨xh, yh, xc, yc, by rw [cell_new]; rfl, by rw [cell_new]; rfl, by rw [cell_new]; rfl⟩ : XRead _ X.g hb hc cb cc s.nd k w.heap.size zh zc p) j)
    have HN := Lib.hid (fun W => SeqG.new_row3 p W)
    have HN2 : Hid (∀ (W : World), W.heap.size = w.heap.size + 1 → ∀ j u, (pcells [p])[j]? = some u → (W.alloc (.cells #[.int .i64 p.1, .int .i64 p.2.1, .int .i64 p.2.2] 24)).cell? ((Addr.mk (w.heap.size + 1) 0 none).add j) = some u) := fun W hW => by rw [← hW]; exact SeqG.new_row3 p W
    have HD := Lib.hid hd
    generalize X.g = g at *
    generalize s.nd = nd at *
    clear h h1 b1 hd ehv ecv hhc hcc xh xc yh yc hcn
    go_enter Try.func61, Try.ntmps61
    go_wp2_with fail
    refine TH.out.mono ?_
    rintro e w1 ⟨rfl, hw1⟩
    obtain rfl := hw1.symm
    go_wp2_with fail
    refine MA.out.mono ?_
    rintro e w1 ⟨⟨m, hm, rfl⟩, hw1⟩
    obtain rfl := hw1.symm
    by_cases hm0 : m = 0
    · subst hm0
      go_wp2_with fail
      go_ret
      exact ⟨⟨16, rfl, fun h => absurd h (by decide)⟩, HB.out⟩
    · have dm : ((m : Int) == 0) = false := by rw [beq_eq_false_iff_ne]; omega
      have dm2 : (m == 0) = false := by rw [beq_eq_false_iff_ne]; exact hm0
      have TT := Lib.hid (fun (W : World) (B : Nat) (v : Value) (qs : List P3) (hq : qs.length ≤ 964) (j : W.ownsRow B 24 3 v (qs.length + 1) (pcells qs ++ pcells [p])) => reftest_any zh zc m v (qs ++ [p]) W (owns_row (app_owns j)).1 (by rw [List.length_append]; simp; omega))
      go_wp2_with fail
      have R0 := Below.refl (w.alloc (.cells #[.int .i64 p.1, .int .i64 p.2.1, .int .i64 p.2.2] 24)).heap.size (w.alloc (.cells #[.int .i64 p.1, .int .i64 p.2.1, .int .i64 p.2.2] 24))
      go_region_held3 (fun w' => (w'.cell? ⟨g, 1, none⟩ = some (.slice (some ⟨hb, 0, none⟩) nd hc) ∧ w'.cell? ⟨hb, k, none⟩ = some (.bool zh) ∧ w'.cell? ⟨g, 2, none⟩ = some (.slice (some ⟨cb, 0, none⟩) nd cc) ∧ w'.cell? ⟨cb, k, none⟩ = some (.int .i64 zc) ∧ w'.cell? ⟨w.heap.size, 0, none⟩ = some (.int .i64 p.1) ∧ w'.cell? ⟨w.heap.size, 1, none⟩ = some (.int .i64 p.2.1) ∧ w'.cell? ⟨w.heap.size, 2, none⟩ = some (.int .i64 p.2.2)) ∧ Below (w.alloc (.cells #[.int .i64 p.1, .int .i64 p.2.1, .int .i64 p.2.2] 24)).heap.size (w.alloc (.cells #[.int .i64 p.1, .int .i64 p.2.1, .int .i64 p.2.2] 24)) w')
        (refine ⟨xread_and (HS.out _ ?_), ?_⟩ <;> (repeat (first | assumption | with_reducible refine bel_alloc ?_ | with_reducible refine bel_drew ?_)))
        (first
          | (go_at_call 64; go_split_ands; (with_reducible refine (AL.out _ (by assumption)).mono ?_); rintro e w9 ⟨a9, c9, qs, rfl, o9, hq9, b9⟩; have R9 := bel_end (by assumption) b9; have s9 := R9.size; try simp only [World.size_alloc] at s9)
          | (go_at_call 66; go_split_ands; (with_reducible refine (TT.out _ _ _ qs hq9 (by first | assumption | exact World.ownsRow.drew (by assumption))).mono ?_); rintro e w12 ⟨rfl, b12⟩; have R12 := bel_end (by assumption) b12)
          | (refine step_append_lies _ (by rfl) _ _ _ (by rfl) _ 24 i0 _ 3 24 Try.underlying50 hi hz0 hz1 hz2 rfl (by omega) _ qs.length (pcells qs) (by rfl) (o9.alloc _)
                ⟨w9.heap.size, 0, none⟩ 1 1 (pcells [p]) (by rfl) (by rfl) (HN.out _) (pcells_one _)
                (by omega) (by unfold maxLen; omega) (by omega) (by simp; omega) (w9.heap.size + 1) (by simp) ?_; intro gg cap1 w11 hown1 hgrow hat hlt1; have R11 : Below (w.alloc (.cells #[.int .i64 p.1, .int .i64 p.2.1, .int .i64 p.2.2] 24)).heap.size (w.alloc (.cells #[.int .i64 p.1, .int .i64 p.2.1, .int .i64 p.2.2] 24)) w11 := app_below (bel_alloc R9) (by first | exact Nat.le_refl _ | (simp; done) | (simp; omega)) (bel_alloc R9).size o9 hgrow)
          | (refine step_append_lies _ (by rfl) _ _ _ (by rfl) _ 24 i0 _ 3 24 Try.underlying50 hi hz0 hz1 hz2 rfl (by omega) _ qs.length (pcells qs) (by rfl) o9
                ⟨w.heap.size + 1, 0, none⟩ 1 1 (pcells [p]) (by rfl) (by rfl) (news_below b9 (by simp) (HN2.out _ (by simp))) (pcells_one _)
                (by omega) (by unfold maxLen; omega) (by omega) b9.size w9.heap.size rfl ?_; intro gg cap1 w11 hown1 hgrow hat hlt1; have R11 : Below (w.alloc (.cells #[.int .i64 p.1, .int .i64 p.2.1, .int .i64 p.2.2] 24)).heap.size (w.alloc (.cells #[.int .i64 p.1, .int .i64 p.2.1, .int .i64 p.2.2] 24)) w11 := app_below R9 (by first | exact Nat.le_refl _ | (simp; done) | (simp; omega)) R9.size o9 hgrow)
          | fail)
      all_goals (go_wp2_with fail; go_ret; exact ⟨⟨_, rfl, fun _ => HD.out⟩, bel_end HB.out (by assumption)⟩)
  · have hdd : (decide (0 ≤ d) && decide (d < (s.nd : Int))) = false := by
      rw [← Bool.decide_and]; exact decide_eq_false hd
    rw [hdd] at TH
    generalize X.g = g at *
    clear h h1 b1 MA hdd
    go_enter Try.func61, Try.ntmps61
    go_wp2_with fail
    refine TH.out.mono ?_
    rintro e w1 ⟨rfl, hw1⟩
    obtain rfl := hw1.symm
    go_wp2_with fail
    go_ret
    exact ⟨⟨14, rfl, fun h => absurd h (by decide)⟩, HB.out⟩
end
end Go.Proofs.Ytmcilmmnpolieaa
/- The document's answer's Join, Change: each leaves one behind. Each theorem's premises are its conditions. -/
namespace Go.Proofs.Ytmcilmmnpolieaa
open Go.ChangeShapes Go.WideShapes Go.ChangeAt Go.RowKit Go.Shelf Go.Deep

section
variable {w : World} {X : XLay} {s : XS}
theorem XNext.drew {w w' : World} {X X' : XLay} (h : XNext w X w' X') : XNext w X w'.drew X' := h.trans (XNext.of_below X' (Below.refl _ _).drew)
theorem XAt.drew (h : XAt w X s) : XAt w.drew X s := h.below (Below.refl _ _).drew
theorem XKeep.drew {w' : World} (h : XKeep w X s w') : XKeep w X s w'.drew := by
  obtain ⟨X', s', a, b, c⟩ := h
  exact ⟨X', s', a.drew, b.drew, c⟩
/-- a server's params are stored. -/
def storedP (w : World) (g i : Nat) (p : P3) : World := ((w.setCell ⟨g, 68 + i * 3, none⟩ (.int .i64 p.1)).setCell ⟨g, 68 + i * 3 + 1, none⟩ (.int .i64 p.2.1)).setCell ⟨g, 68 + i * 3 + 2, none⟩ (.int .i64 p.2.2)
theorem XAt.storeP (h : XAt w X s) {i : Nat} (hi : i < 64) (p : P3) : ∃ s', XAt (storedP w X.g i p) X s' ∧ XNext w X (storedP w X.g i p) X ∧ s'.cnt = s.cnt ∧ s'.nd = s.nd := by
  have h1 := h.setP (i := i * 3) (by omega) p.1
  have h2 := h1.setP (i := i * 3 + 1) (by omega) p.2.1
  have h3 := h2.setP (i := i * 3 + 2) (by omega) p.2.2
  refine ⟨_, h3, ?_, rfl, rfl⟩
  unfold storedP
  exact ((xnext_set h.rg _).trans (xnext_set h1.rg _)).trans (xnext_set h2.rg _)
/-- a server is a member of a domain, and its params are stored. -/
theorem XAt.joined (h : XAt w X s) {i : Nat} (hi : i < 64) {d : Int} (hd : 0 ≤ d ∧ d < s.nd) (p : P3) : XKeep w X s (storedP (w.setCell ⟨X.g, 4 + i, none⟩ (.int .i64 d)) X.g i p) := by
  have h1 := h.setIn hi d (by omega)
  obtain ⟨s', h2, n2, c2, e2⟩ := h1.storeP hi p
  exact ⟨X, s', h2, (xnext_set h.rg _).trans n2, by rw [c2]; simp, by rw [e2]; exact Nat.le_refl _⟩
theorem XKeep.trans0 {w1 w2 : World} (hb : Below w.heap.size w w1) (k : XKeep w1 X s w2) : XKeep w X s w2 := by
  obtain ⟨X', s', a, b, c⟩ := k
  exact ⟨X', s', a, (XNext.of_below X hb).trans b, c⟩
set_option maxHeartbeats 2000000 in
theorem xjoin_any (h : XAt w X s) (hcn : s.cnt ≤ 900) (id d : Int) (p : P3) : Calls Try.prog 45 #[.pointer (some ⟨X.g, 0, none⟩), .int .i64 id, .int .i64 d, .agg #[.int .i64 p.1, .int .i64 p.2.1, .int .i64 p.2.2]] w (XTurn w X s) := by
  have b1 := bel_alloc (Below.refl w.heap.size w) (o := .cells #[.int .i64 p.1, .int .i64 p.2.1, .int .i64 p.2.2] 24)
  have h1 := h.below b1
  have SV := Lib.hid (fun W => xserver_any id W)
  have PA := Lib.hid (xpasses_any h1 hcn d (-1) p)
  have HX := Lib.hid h
  have HB := Lib.hid b1
  by_cases hid : 0 ≤ id ∧ id < 64
  · rw [decide_eq_true hid.1, decide_eq_true hid.2] at SV
    obtain ⟨i, rfl⟩ : ∃ k : Nat, id = k := ⟨id.toNat, by omega⟩
    have hi : i < 64 := by omega
    have hiz : (i : Int) < 64 := by omega
    have x := h1.inn i hi
    have lg := h1.glt
    generalize hz : s.inn i = z at *
    have HZ := Lib.hid hz
    obtain ⟨g, hg⟩ : ∃ g, g = X.g := ⟨_, rfl⟩
    rw [← hg] at x lg PA ⊢
    have HG := Lib.hid hg
    clear h h1 b1 hid hz hg
    by_cases hz0 : 0 ≤ z
    · have d1 : decide (0 ≤ z) = true := decide_eq_true hz0
      clear hz0
      go_enter Try.func45, Try.ntmps45
      go_wp2_with fail
      refine (SV.out _).mono ?_
      rintro e w1 ⟨rfl, hw1⟩
      obtain rfl := hw1.symm
      go_wp2_with fail
      go_ret
      exact ⟨⟨15, rfl⟩, XKeep.same HX.out HB.out⟩
    · have d1 : decide (0 ≤ z) = false := decide_eq_false hz0
      clear hz0
      go_enter Try.func45, Try.ntmps45
      go_wp2_with fail
      refine (SV.out _).mono ?_
      rintro e w1 ⟨rfl, hw1⟩
      obtain rfl := hw1.symm
      go_wp2_with fail
      refine PA.out.mono ?_
      rintro e w2 ⟨⟨E, rfl, hE⟩, b2⟩
      have hb2 : Below w.heap.size w w2 := bel_end HB.out b2
      have h2 := HX.out.below hb2
      have q0 := (b2.cell (p := ⟨w.heap.size, 0, none⟩) (by simp)).trans (show _ = some (Value.int .i64 p.1) by go_simp)
      have q1 := (b2.cell (p := ⟨w.heap.size, 1, none⟩) (by simp)).trans (show _ = some (Value.int .i64 p.2.1) by go_simp)
      have q2 := (b2.cell (p := ⟨w.heap.size, 2, none⟩) (by simp)).trans (show _ = some (Value.int .i64 p.2.2) by go_simp)
      have lw : w.heap.size < w2.heap.size := cell_lt q0
      have x2 := h2.inn i hi
      have p0 := h2.p (i * 3) (by omega)
      have p1 := h2.p (i * 3 + 1) (by omega)
      have p2 := h2.p (i * 3 + 2) (by omega)
      have f0 := h2.fg (4 + i)
      have f1 := h2.fg (68 + i * 3)
      have f2 := h2.fg (68 + i * 3 + 1)
      have f3 := h2.fg (68 + i * 3 + 2)
      have lg2 := h2.glt
      have hgw : X.g ≠ w.heap.size := by have := HX.out.glt; omega
      rw [← HG.out] at x2 p0 p1 p2 f0 f1 f2 f3 lg2 hgw
      simp only [← Nat.add_assoc] at p1 p2
      have H2 := Lib.hid h2
      have HB2 := Lib.hid hb2
      clear h2 hb2 b2
      by_cases hE0 : E = 0
      · have HD := Lib.hid (hE hE0)
        subst hE0
        clear hE
        go_wp2_with fail
        go_region
        all_goals go_wp2_with fail
        all_goals go_ret
        all_goals
          refine ⟨⟨0, rfl⟩, XKeep.trans0 HB2.out ?_⟩
          have hk := H2.out.joined hi HD.out p
          rw [← HG.out] at hk
          unfold storedP at hk
          first | exact hk | exact hk.drew
      · have dE : (E == 0) = false := by rw [beq_eq_false_iff_ne]; exact hE0
        clear hE hE0
        go_wp2_with fail
        go_ret
        exact ⟨⟨E, rfl⟩, XKeep.same HX.out HB2.out⟩
  · have hdd : (decide (0 ≤ id) && decide (id < 64)) = false := by
      rw [← Bool.decide_and]; exact decide_eq_false hid
    rw [hdd] at SV
    generalize X.g = g at *
    clear h h1 b1 PA hdd hid
    go_enter Try.func45, Try.ntmps45
    go_wp2_with fail
    refine (SV.out _).mono ?_
    rintro e w1 ⟨rfl, hw1⟩
    obtain rfl := hw1.symm
    go_wp2_with fail
    go_ret
    exact ⟨⟨10, rfl⟩, XKeep.same HX.out HB.out⟩
set_option maxHeartbeats 2000000 in
theorem xchange_any (h : XAt w X s) (hcn : s.cnt ≤ 900) (id : Int) (p : P3) : Calls Try.prog 46 #[.pointer (some ⟨X.g, 0, none⟩), .int .i64 id, .agg #[.int .i64 p.1, .int .i64 p.2.1, .int .i64 p.2.2]] w (XTurn w X s) := by
  have b1 := bel_alloc (Below.refl w.heap.size w) (o := .cells #[.int .i64 p.1, .int .i64 p.2.1, .int .i64 p.2.2] 24)
  have h1 := h.below b1
  have SV := Lib.hid (fun W => xserver_any id W)
  have HX := Lib.hid h
  have HB := Lib.hid b1
  by_cases hid : 0 ≤ id ∧ id < 64
  · rw [decide_eq_true hid.1, decide_eq_true hid.2] at SV
    obtain ⟨i, rfl⟩ : ∃ k : Nat, id = k := ⟨id.toNat, by omega⟩
    have hi : i < 64 := by omega
    have hiz : (i : Int) < 64 := by omega
    have PA := Lib.hid (fun W (k : Below (w.alloc (.cells #[.int .i64 p.1, .int .i64 p.2.1, .int .i64 p.2.2] 24)).heap.size (w.alloc (.cells #[.int .i64 p.1, .int .i64 p.2.1, .int .i64 p.2.2] 24)) W) => xpasses_any (h1.below k) hcn (s.inn i) i p)
    have R0 := Below.refl (w.alloc (.cells #[.int .i64 p.1, .int .i64 p.2.1, .int .i64 p.2.2] 24)).heap.size (w.alloc (.cells #[.int .i64 p.1, .int .i64 p.2.1, .int .i64 p.2.2] 24))
    have x := h1.inn i hi
    have lg := h1.glt
    generalize hz : s.inn i = z at *
    have HZ := Lib.hid hz
    obtain ⟨g, hg⟩ : ∃ g, g = X.g := ⟨_, rfl⟩
    rw [← hg] at x lg PA ⊢
    have HG := Lib.hid hg
    clear h h1 b1 hid hz hg
    by_cases hz0 : z < 0
    · have d1 : decide (z < 0) = true := decide_eq_true hz0
      clear hz0
      go_enter Try.func46, Try.ntmps46
      go_wp2_with fail
      refine (SV.out _).mono ?_
      rintro e w1 ⟨rfl, hw1⟩
      obtain rfl := hw1.symm
      go_wp2_with fail
      go_ret
      exact ⟨⟨14, rfl⟩, XKeep.same HX.out HB.out⟩
    · have d1 : decide (z < 0) = false := decide_eq_false hz0
      clear hz0
      go_enter Try.func46, Try.ntmps46
      go_wp2_with fail
      refine (SV.out _).mono ?_
      rintro e w1 ⟨rfl, hw1⟩
      obtain rfl := hw1.symm
      go_wp2_with fail
      go_cut [7] from 18 to 27 (fun s wx => (∃ E : Int, s = .int .i64 E) ∧ Below (w.alloc (.cells #[.int .i64 p.1, .int .i64 p.2.1, .int .i64 p.2.2] 24)).heap.size (w.alloc (.cells #[.int .i64 p.1, .int .i64 p.2.1, .int .i64 p.2.2] 24)) wx)
      case first =>
        go_region_with (go_at_call 61; refine (PA.out _ (bel_drew R0)).mono ?_; rintro e w2 ⟨⟨E, rfl, _⟩, b2⟩)
        all_goals go_wp2_with fail
        all_goals go_meet
        all_goals exact ⟨⟨_, rfl⟩, bel_end (bel_drew R0) b2⟩
      case rest =>
        obtain ⟨⟨E, rfl⟩, b2⟩ := hcut
        have hb2 : Below w.heap.size w wc := bel_end HB.out b2
        have h2 := HX.out.below hb2
        have q0 := (b2.cell (p := ⟨w.heap.size, 0, none⟩) (by simp)).trans (show _ = some (Value.int .i64 p.1) by go_simp)
        have q1 := (b2.cell (p := ⟨w.heap.size, 1, none⟩) (by simp)).trans (show _ = some (Value.int .i64 p.2.1) by go_simp)
        have q2 := (b2.cell (p := ⟨w.heap.size, 2, none⟩) (by simp)).trans (show _ = some (Value.int .i64 p.2.2) by go_simp)
        have lw : w.heap.size < wc.heap.size := cell_lt q0
        have p0 := h2.p (i * 3) (by omega)
        have p1 := h2.p (i * 3 + 1) (by omega)
        have p2 := h2.p (i * 3 + 2) (by omega)
        have f1 := h2.fg (68 + i * 3)
        have f2 := h2.fg (68 + i * 3 + 1)
        have f3 := h2.fg (68 + i * 3 + 2)
        have lg2 := h2.glt
        rw [← HG.out] at p0 p1 p2 f1 f2 f3 lg2
        simp only [← Nat.add_assoc] at p1 p2
        have H2 := Lib.hid h2
        have HB2 := Lib.hid hb2
        clear h2 hb2 b2
        by_cases hE0 : E = 0
        · subst hE0
          go_wp2_with fail
          go_region
          all_goals go_wp2_with fail
          all_goals go_ret
          all_goals
            refine ⟨⟨0, rfl⟩, XKeep.trans0 HB2.out ?_⟩
            obtain ⟨s', k1, k2, k3, k4⟩ := H2.out.storeP hi p
            have hk : XKeep wc X s (storedP wc X.g i p) := ⟨X, s', k1, k2, by rw [k3]; omega, Nat.le_of_eq k4.symm⟩
            rw [← HG.out] at hk
            unfold storedP at hk
            first | exact hk | exact hk.drew
        · have dE : (E == 0) = false := by rw [beq_eq_false_iff_ne]; exact hE0
          clear hE0
          go_wp2_with fail
          go_ret
          exact ⟨⟨E, rfl⟩, XKeep.same HX.out HB2.out⟩
  · have hdd : (decide (0 ≤ id) && decide (id < 64)) = false := by
      rw [← Bool.decide_and]; exact decide_eq_false hid
    rw [hdd] at SV
    generalize X.g = g at *
    clear h h1 b1 hdd hid
    go_enter Try.func46, Try.ntmps46
    go_wp2_with fail
    refine (SV.out _).mono ?_
    rintro e w1 ⟨rfl, hw1⟩
    obtain rfl := hw1.symm
    go_wp2_with fail
    go_ret
    exact ⟨⟨10, rfl⟩, XKeep.same HX.out HB.out⟩
end
end Go.Proofs.Ytmcilmmnpolieaa
/- What ledger.Go answers where time goes on, and what it turns. Each theorem's premises are its conditions. -/
namespace Go.Proofs.Ytmcilmmnpolieaa
open Go.ChangeShapes Go.WideShapes Go.ChangeAt Go.RowKit Go.Shelf Go.Deep

section
variable {w : World} {L : Lay} {st : LS} {n : Nat}
set_option maxHeartbeats 4000000 in
set_option maxRecDepth 100000 in
theorem go_ok2 (h : LAt w L st) (ho : LOk st n) (hn : n ≤ 900) (now : Int) (hck : clockS now = true) (hle : st.now ≤ now) : Calls Try.prog 13 #[.pointer (some ⟨L.g, 0, none⟩), .int .i64 now] w fun e w' => Turns w L (goneLS st now st.nd) e (.tuple #[.int .i64 (gone now st.dom st.nd : Nat), .int .i64 0]) w' := by
  have b1 := bel_alloc (Below.refl w.heap.size w) (o := .cells #[.int .i64 now] 3)
  have x := (h.below b1).led.now
  have fx := (h.below b1).led.froz 0
  have lg := led_lt (h.below b1)
  have CK := Lib.hid (fun W => clock_any now W)
  rw [hck] at CK
  have HL := Lib.hid h
  have HB := Lib.hid b1
  have lgw := led_lt h
  have R0 := Below.refl (w.alloc (.cells #[.int .i64 now] 3)).heap.size (w.alloc (.cells #[.int .i64 now] 3))
  have d1 : decide (now < st.now) = false := decide_eq_false (by clear x fx lg lgw b1 R0; omega)
  have HO := Lib.hid ho
  obtain ⟨bd, dcap, edv, hdc⟩ : ∃ bd dcap, L.dv = .slice (some ⟨bd, 0, none⟩) st.nd dcap ∧ st.nd ≤ dcap := by
    obtain ⟨b, cap, e, _, hc, _⟩ := doms_shape h.doms ho.nd.1
    exact ⟨b, cap, e, hc⟩
  have hnd : st.nd ≤ 8 := ho.nd.2
  have HE := Lib.hid edv
  have hoffB : Hid (L.role w.heap.size = none) := by
    show _ = _
    cases hr : L.role w.heap.size with
    | none => rfl
    | some r => have := role_lt h hr; omega
  obtain ⟨g, hg⟩ : ∃ g, g = L.g := ⟨_, rfl⟩
  rw [← hg] at x fx lg lgw ⊢
  have HG := Lib.hid hg
  clear h b1 hg hck hle ho edv
  go_enter Try.func13, Try.ntmps13
  go_wp2_with fail
  go_cut [13] from 14 to 24 (fun s wx => s = .bool false ∧ Below (w.alloc (.cells #[.int .i64 now] 3)).heap.size (w.alloc (.cells #[.int .i64 now] 3)) wx)
  case first =>
    go_quiet ((go_at_call 31; exact Calls.quiet_of_same (CK.out _)))
    go_wp2_with fail
    go_meet
    exact ⟨rfl, bel_drewN R0 _⟩
  case rest =>
    obtain ⟨rfl, b2⟩ := hcut
    have hB2 := bel_end HB.out b2
    have hL2 := HL.out.below hB2
    have x2 := hL2.led.now
    have fx2 := hL2.led.froz 0
    have lg2 := led_lt hL2
    have bx := (b2.cell (p := ⟨w.heap.size, 0, none⟩) (by simp)).trans (show _ = some (Value.int .i64 now) by go_simp)
    have lbx : w.heap.size < wc.heap.size := cell_lt bx
    have hgB : L.g ≠ w.heap.size := by have := HG.out; omega
    have hS := hL2.setNow now
    have hdvS := hS.led.dv
    rw [HE.out] at hdvS
    have HGA : Hid (GoAt wc w.heap.size L st now 0 (wc.setCell ⟨L.g, 0, none⟩ (.int .i64 now)) L) := ⟨hS, next_set hL2.led.role, rfl, rfl, by rw [World.cell?_setCell_other _ _ _ _ (fun e => hgB (congrArg Addr.block e))]; exact bx, lbx, hoffB.out⟩
    have HNX := Lib.hid (Next.of_below L hB2)
    rw [← HG.out] at x2 fx2 lg2 hdvS HGA hgB
    have hgB2 : w.heap.size ≠ g := Ne.symm hgB
    clear hL2 hB2 b2 hS x fx lg lgw d1
    go_wp2_with fail
    generalize hws : wc.setCell ⟨g, 0, none⟩ (.int .i64 now) = ws at *
    clear hws
    go_loopg [34, 6] 8 (fun kx s34 s6 wr => ∃ (k : Nat) (L' : Lay), s34 = .int .i64 k ∧ s6 = .int .i64 (gone now st.dom k : Nat) ∧ k ≤ st.nd ∧ 8 - k ≤ kx ∧ Hid (GoAt wc w.heap.size L st now k wr L'))
    case atStart => exact ⟨0, L, rfl, by simp [gone], Nat.zero_le _, by omega, HGA.out⟩
    case round =>
      clear HGA
      obtain ⟨k, L', rfl, rfl, hk, hkx, HA⟩ := hrel
      by_cases hlt : k < st.nd
      · have hltz : (k : Int) < (st.nd : Int) := by omega
        have hD := HA.out.at_.dom k hlt
        obtain ⟨b', cap', e', hb', _, hrb', hcell'⟩ := doms_shape HA.out.at_.doms (show 0 < (goneLS st now k).nd from Nat.lt_of_le_of_lt (Nat.zero_le k) hlt)
        have hbb : b' = bd := by
          rw [HA.out.dv, HE.out] at e'
          cases e'
          rfl
        subst hbb
        have y := hcell' k hlt
        have yo := hD.ov
        have fo := hD.froz 3
        have lD := role_lt HA.out.at_ hD.role
        have hown := hD.own
        have hlen : (L'.ol k).length = (st.dom k).owed.length := by
          rw [hD.perm.length_eq]
          simp only [goneLS, if_neg (Nat.lt_irrefl k)]
        have hmx := HO.out.owed k hlt
        have DL := delete_any w.heap.size (L'.ov k) (L'.ol k) now wr hown (by omega) HA.out.box (fun b hb e => by
          have := HA.out.next.role b (by rw [hD.orole b hb]; exact fun e => by cases e)
          rw [← e] at this
          rcases this with h5 | h5
          · exact h5 HA.out.off
          · have := HA.out.lt; omega)
        have hkl : (keepL now (L'.ol k)).length = (keepOw now (st.dom k)).owed.length := by
          have hp := hD.perm
          simp only [goneLS, if_neg (Nat.lt_irrefl k)] at hp
          exact (hp.filter _).length_eq
        have hgs := gone_succ now st.dom k
        have hgl := gone_le (m := 900) now st.dom (k := k) fun i hi => Nat.le_trans (HO.out.owed i (by omega)) hn
        have hkle : (keepOw now (st.dom k)).owed.length ≤ (st.dom k).owed.length := List.length_filter_le _ _
        have hvd : (L'.ov k).ownBlock ≠ some (L'.db k) := fun e => role_ne (hD.orole _ e) hD.role (by simp) rfl
        have hdbL : L'.db k = L.db k := by rw [HA.out.db]
        have HD := Lib.hid hD
        rw [hdbL] at y yo fo lD hvd
        obtain ⟨av, nv, cv, hav⟩ : ∃ a n c, L'.ov k = .slice a n c := by
          rcases owed_shape hown with ⟨e, _⟩ | ⟨gg, cc, e, _⟩ <;> exact ⟨_, _, _, e⟩
        have hnv : nv = (st.dom k).owed.length := by
          rw [← hlen]
          rcases owed_shape hown with ⟨e, e0⟩ | ⟨gg, cc, e, _⟩ <;> rw [hav] at e <;> cases e
          · rw [e0]; rfl
          · rfl
        rw [hav] at yo DL
        subst hnv
        have HAV := Lib.hid hav
        unfold ptr at y
        generalize hdk : L.db k = dk at *
        have HDK := Lib.hid hdk
        have hkb : k * 900 ≤ 7200 := by omega
        generalize hnl : (st.dom k).owed.length = nl at *
        generalize hml : (keepOw now (st.dom k)).owed.length = ml at *
        generalize hgk : gone now st.dom k = gk at *
        have hkeepI := hkl
        rw [hkeepI] at DL
        have HGS := Lib.hid hgs
        have HDL := Lib.hid DL
        have HKL := Lib.hid hkl
        clear DL hgs hown hD e' hcell' hlen hkl hkeepI hav hdk hdbL hnl hml hgk hrb'
        go_wp2_with fail
        refine HDL.out.mono ?_
        rintro e w2 ⟨a2, c2, rfl, o2, k2, n2⟩
        have hs2 : Same wr w2 dk := n2.block dk lD (by rw [← HAV.out]; exact hvd)
        have yo2 := (hs2.cell 3).trans yo
        have fo2 := (hs2.froz 3).trans fo
        have ld2 : dk < w2.heap.size := cell_lt yo2
        have hstep := HA.out.step hlt (v' := .slice a2 ml c2) (l' := keepL now (L'.ol k)) rfl (by rw [HAV.out]; exact n2) o2 (by rw [HAV.out]; exact k2)
        obtain ⟨L'', hL''⟩ := hstep
        rw [HDK.out] at hL''
        have HA2 := Lib.hid hL''
        clear hL'' hs2 o2 k2 n2 yo fo y
        go_wp2_with fail
        go_roundg (8 - (k + 1))
        case measure => omega
        case rel => exact ⟨k + 1, L'', by first | rfl | (congr 1; done) | (congr 1; omega) | (simp; omega), by rw [HGS.out]; congr 1; omega, by omega, Nat.le_refl _, HA2.out⟩
      · have hkk : k = st.nd := by omega
        subst hkk
        have hge : ¬ ((st.nd : Nat) : Int) < (st.nd : Int) := by omega
        go_wp2_with fail
        go_ret2
        exact ⟨rfl, _, HA.out.at_, HNX.out.trans HA.out.next⟩
theorem go_any (h : LAt w L st) (ho : LOk st n) (hn : n ≤ 900) (now : Int) : Calls Try.prog 13 #[.pointer (some ⟨L.g, 0, none⟩), .int .i64 now] w fun e w' => Turns w L (goS st now).1 e (.tuple #[.int .i64 (goS st now).2.1, .int .i64 (goS st now).2.2]) w' := by
  by_cases hb : clockS now = true ∧ st.now ≤ now
  · have e : goS st now = (goneLS st now st.nd, ((gone now st.dom st.nd : Nat) : Int), 0) := by unfold goS; rw [if_pos hb]; rfl
    rw [e]
    exact go_ok2 h ho hn now hb.1 hb.2
  · have e : goS st now = (st, 0, 10) := by unfold goS; rw [if_neg hb]
    rw [e]
    exact go_bad h now hb
end
end Go.Proofs.Ytmcilmmnpolieaa
