/- A loop over an iterator that hands things out, whose body may turn what lay ahead of the loop (a map). Conditions: what the loop's owner says of memory abides new blocks. Each theorem's premises are its conditions. -/
import Derived.Test.YtmcilmmnpolieaaK03
import Derived.RangeFuncWrites
/- A loop over an iterator that hands things out, whose body may turn what lay ahead of the loop (a map). Conditions: what the loop's owner says of memory abides new blocks. -/
namespace Go.Proofs.Ytmcilmmnpolieaa.SeqG
open Go.RowKit Go.Shelf

/-- what lies below B, but for the block M, is as it was. -/
structure Bel2 (M B : Nat) (U V : World) : Prop where
  os : V.os = U.os
  tape : V.tape = U.tape
  output : V.output = U.output
  size : U.heap.size ≤ V.heap.size
  block : ∀ k, k < B → k ≠ M → V.heap[k]? = U.heap[k]?
theorem Bel2.of {M B : Nat} {U V : World} (h : Below B U V) : Bel2 M B U V := ⟨h.os, h.tape, h.output, h.size, fun k hk _ => h.block k hk⟩
theorem Bel2.trans {M B : Nat} {U V W : World} (h : Bel2 M B U V) (k : Bel2 M B V W) : Bel2 M B U W := ⟨k.os.trans h.os, k.tape.trans h.tape, k.output.trans h.output, Nat.le_trans h.size k.size, fun i hi hn => (k.block i hi hn).trans (h.block i hi hn)⟩
theorem Bel2.grown {M B : Nat} {U V : World} (h : U.grownBy V (some M)) (hB : B ≤ U.heap.size) : Bel2 M B U V := ⟨h.os, h.tape, h.output, h.size, fun k hk hn => h.block k (by omega) (fun e => by cases e; exact hn rfl)⟩
/-- an iterator's promise: it hands out what its round takes, as long as the round asks for more; it says S of all that it handed out, or was stopped behind things of which it says Sp. -/
def HandsM {α : Type} (M : Nat) (P : Program) (gf : FuncId) (lb : Array Value) (out : α → Array Value) (B : Nat) (S : List α → World → Prop) (Sp : List α → Prop) (N : Nat) (w : World) : Prop :=
  ∀ (l : Nat) (J Jx : List α → World → Prop) (W : World), Bel2 M B w W → Grows J →
    (∀ pre x U, J pre U → pre.length < N → YieldAt Fence.wide 4 P l (out x) U fun e V => (e = .returned (.bool true) ∧ J (pre ++ [x]) V ∧ Bel2 M B U V) ∨ (e = .returned (.bool false) ∧ Jx (pre ++ [x]) V)) →
    J [] W → CallsIn Fence.wide 5 P gf (#[.func (.yield l) #[] #[]] ++ lb) W fun e V => (∃ v, e = .returned v) ∧ ((∃ ys, S ys V ∧ J ys V) ∨ ∃ pre, Sp pre ∧ Jx pre V)

/-- how a round's body ends: it goes on, or breaks out of the block 0. -/
def EndsM {α : Type} (M B C : Nat) (I Ix : List α → World → Prop) (ys : List α) (U : World) : Exit → Act → World → Prop
  | .normal, _, V => KeepsFrom C U V ∧ Bel2 M B U V ∧ I ys V
  | .exit 0, _, V => KeepsFrom C U V ∧ Ix ys V
  | _, _, _ => False

theorem loop_handsM {α : Type} {P : Program} {g : Operand} {ps : Array Tmp} {assign body : Code} {Q : Exit → Act → World → Prop} {a : Act} {w w0 : World} {gf : FuncId} {lb : Array Value} {out : α → Array Value} {M B : Nat} {S : List α → World → Prop} {Sp : List α → Prop} {N : Nat}
    (hg : a.eval g = .func (.func gf) #[] lb) (eg : Enters P gf) (seq : HandsM M P gf lb out B S Sp N w0) (h0 : Bel2 M B w0 w) (hB : B ≤ w.heap.size) (hps : ∀ x, (out x).size = ps.size)
    (I Ix : List α → World → Prop) (gI : Grows I)
    (pI : ∀ ys U l o o', I ys U → U.heap[l]? = some o → o.isCells = false → w.heap.size ≤ l → I ys (U.putObj l o'))
    (pIx : ∀ ys U l o o', Ix ys U → U.heap[l]? = some o → o.isCells = false → w.heap.size ≤ l → Ix ys (U.putObj l o'))
    (pS : ∀ ys U l o o', S ys U → U.heap[l]? = some o → o.isCells = false → w.heap.size ≤ l → S ys (U.putObj l o'))
    (start : I [] w) (a1 : α → World → Act) (u1 : α → World → World) (g1 : ∀ x U, Below U.heap.size U (u1 x U)) (R1 : α → World → World → Prop) (r1 : ∀ x U, R1 x U (u1 x U))
    (pR : ∀ x U0 U l o o', R1 x U0 U → U.heap[l]? = some o → o.isCells = false → R1 x U0 (U.putObj l o'))
    (takes : ∀ (l : Nat) (x : α) (U : World) (K : Act → World → Prop), K (a1 x U) (u1 x U) → assign.wpIn (Fence.wide.inRound l) 4 P (Exit.then K (fun _ _ _ => False)) { tmps := (ps.zip (out x)).foldl (fun t (p, v) => t.setIfInBounds p v) a.tmps, defers := [] } U)
    (rounds : ∀ (l : Nat) (pre : List α) (x : α) (U0 U : World), I pre U → R1 x U0 U → pre.length < N → body.wpIn (Fence.wide.inRound l) 4 P (EndsM M B w.heap.size I Ix (pre ++ [x]) U) (a1 x U0) U)
    (all : ∀ (D : Nat) (ys : List α) (U : World), w.heap.size ≤ D → S ys U → I ys U → U.heap[D]? = some (.deferred (some [])) → Q .normal { a with defers := { target := .collected D, args := #[] } :: a.defers } U)
    (some_ : ∀ (D : Nat) (pre : List α) (U : World), w.heap.size ≤ D → Sp pre → Ix pre U → U.heap[D]? = some (.deferred (some [])) → (Code.exit 0).wpIn Fence.wide 6 P Q { a with defers := { target := .collected D, args := #[] } :: a.defers } U) :
    (Code.rangeFunc g ps assign body).wpIn Fence.wide 6 P Q a w := by
  have en : ∀ args w, (callFunc gf args).run P w = .ok (.enter gf args) w := eg
  refine wpIn_rangeFunc fun fn hfn => ?_
  -- D: where the rounds' deferred calls lie; D + 1: where the loop's own record lies
  obtain ⟨D, hD⟩ : ∃ D, w.heap.size = D := ⟨_, rfl⟩
  obtain ⟨R, hR⟩ : ∃ R : LoopState → Option Code → Obj, R = fun s c => .loop { state := s, pending := c, fn, tmps := a.tmps, params := ps, assign, body, defers := D } := ⟨_, rfl⟩
  have hRc : ∀ s c, (R s c).isCells = false := fun s c => by rw [hR]; rfl
  let T : LoopState → Option Code → World → Prop := fun s c U => U.heap[D + 1]? = some (R s c) ∧ U.heap[D]? = some (.deferred (some []))
  have tK : ∀ {s c U V}, T s c U → KeepsFrom w.heap.size U V → T s c V := fun h k => ⟨k.same _ _ (by omega) h.1 (hRc _ _), k.same _ _ (by omega) h.2 rfl⟩
  have tP : ∀ {s c s' c' U}, T s c U → T s' c' (U.putObj (D + 1) (R s' c')) := fun h =>
    ⟨World.putObj_heap_same (Array.getElem?_eq_some_iff.1 h.1).1, (World.putObj_heap_other (by omega)).trans h.2⟩
  have gB : ∀ {U V : World}, Below U.heap.size U V → KeepsFrom w.heap.size U V := fun h => ⟨h.size, fun k o _ hk _ => (h.block k (Array.getElem?_eq_some_iff.1 hk).1).trans hk⟩
  obtain ⟨W, hW⟩ : ∃ W, (w.alloc (.deferred (some []))).alloc (R .ready none) = W := ⟨_, rfl⟩
  have bW : Below w.heap.size w W := by rw [← hW]; exact ((Below.refl _ w).alloc (Nat.le_refl _) _).alloc (by simp) _
  have tW : T .ready none W := by
    have e := World.alloc_heap_new (w.alloc (.deferred (some []))) (R .ready none)
    rw [World.size_alloc, hD, hW] at e
    refine ⟨e, ?_⟩
    rw [← hW, Below.heap_alloc _ _ _ (by simp; omega), ← hD]
    exact World.alloc_heap_new w _
  refine ⟨D + 1, [{ target := .collected D, args := #[] }], W, { target := .fn (.func gf) lb, args := #[.func (.yield (D + 1)) #[] #[]] }, W, gf, #[.func (.yield (D + 1)) #[] #[]] ++ lb, W, ?_, ?_, ?_, ?_, fun _ => by omega, ?_⟩
  · have e := run_enterLoop_outer (P := P) (w := w) fn a.tmps ps assign body
    rw [hD] at e
    rw [← hW, hR]
    exact e
  · simp only [resolve, hg]
    simp [go_sem]
  · intro f _
    trivial
  · simp [invoke, go_sem, en]
  refine (seq (D + 1) (fun ys U => I ys U ∧ T .ready none U) (fun ys U => Ix ys U ∧ T .done (some (.exit 0)) U) W (h0.trans (Bel2.of (bW.mono hB)))
    (fun s U V h b => ⟨gI s U V h.1 b, tK h.2 (gB b)⟩) ?round ⟨gI _ _ _ start bW, tW⟩).mono ?after
  case after =>
    rintro e V ⟨⟨v, rfl⟩, ⟨ys, hS, hI, hT⟩ | ⟨pre, hSp, hI, hT⟩⟩
    · have hl := hT.1
      rw [hR] at hl
      exact ⟨none, _, run_endLoop hl (by simp), all D ys _ (by omega) (pS _ _ _ _ _ hS hl rfl (by omega)) (pI _ _ _ _ _ hI hl rfl (by omega)) ((World.putObj_heap_other (by omega)).trans hT.2)⟩
    · have hl := hT.1
      rw [hR] at hl
      exact ⟨some (.exit 0), _, run_endLoop hl (by simp), some_ D pre _ (by omega) hSp (pIx _ _ _ _ _ hI hl rfl (by omega)) ((World.putObj_heap_other (by omega)).trans hT.2)⟩
  case round =>
    rintro pre x U ⟨hI, hT⟩ hN
    have hl := hT.1
    rw [hR] at hl
    have b1 : Below U.heap.size U (u1 x U) := g1 x U
    have hl1 := (gB b1).same _ _ (by omega) hl rfl
    refine ⟨fn, _, assign, body, run_yield hl (hps x), roundIn_of_wpIn hfn (takes _ x U _ ⟨_, run_beginRound hl1 rfl, ?_⟩)⟩
    have hT1 := tK hT (gB b1)
    have hI1 := gI _ _ _ hI b1
    have hU : B ≤ U.heap.size := by have := (Array.getElem?_eq_some_iff.1 hl).1; omega
    have bU : Bel2 M B U (u1 x U) := Bel2.of (b1.mono hU)
    have hr1 := r1 x U
    clear hT hI hl b1 
    generalize u1 x U = U' at *
    have t2 : T .busy none (U'.putObj (D + 1) (R .busy none)) := tP hT1
    have b2 : Bel2 M B U' (U'.putObj (D + 1) (R .busy none)) := Bel2.of (below_put (by omega))
    have i2 : I pre (U'.putObj (D + 1) (R .busy none)) := pI _ _ _ _ _ hI1 hl1 rfl (by omega)
    have r2 := pR _ _ _ _ _ (R .busy none) hr1 hl1 rfl
    rw [hR] at t2 b2 i2 r2
    refine wpIn_mono (rounds _ pre x U _ i2 r2 hN) ?_
    rintro e a3 V hp
    have fin : ∀ (c : Option Code), KeepsFrom w.heap.size (U'.putObj (D + 1) (.loop { state := .busy, pending := none, fn, tmps := a.tmps, params := ps, assign, body, defers := D })) V →
        ∃ o, V.heap[D + 1]? = some o ∧ o.isCells = false ∧ (Instr.endRound (D + 1) c).run P V = .ok (.bool c.isNone) (V.putObj (D + 1) (R (if c.isNone then .ready else .done) c)) ∧ T (if c.isNone then .ready else .done) c (V.putObj (D + 1) (R (if c.isNone then .ready else .done) c)) := fun c k => by
      have t3 : T .busy none V := ⟨k.same _ _ (by omega) t2.1 (hRc _ _), k.same _ _ (by omega) t2.2 rfl⟩
      refine ⟨_, t3.1, hRc _ _, ?_, tP t3⟩
      have h3 := t3.1
      rw [hR] at h3 ⊢
      exact run_endRound c h3
    cases e with
    | normal =>
      obtain ⟨k, b, i⟩ := hp
      obtain ⟨o, ho, hc, hr, t3⟩ := fin none k
      exact ⟨_, _, hr, .inl ⟨rfl, ⟨pI _ _ _ _ _ i ho hc (by omega), t3⟩, (bU.trans (b2.trans b)).trans (Bel2.of (below_put (by omega)))⟩⟩
    | exit n =>
      match n, hp with
      | 0, ⟨k, i⟩ =>
        obtain ⟨o, ho, hc, hr, t3⟩ := fin (some (.exit 0)) k
        exact ⟨_, _, hr, .inr ⟨rfl, pIx _ _ _ _ _ i ho hc (by omega), t3⟩⟩
    | ret => exact hp.elim
    | goto t => exact hp.elim
    | panic c => exact hp.elim
    | outgrown => exact hp.elim
end Go.Proofs.Ytmcilmmnpolieaa.SeqG
