/- What a function turns: blocks of a set alone, and new ones. Each theorem's premises are its conditions. -/
import Derived.Test.YtmcilmmnpolieaaK08
import Derived.Laws.AppendOwn
/- What a function turns: blocks of a set alone, and new ones. Each theorem's premises are its conditions. -/
namespace Go.Proofs.Ytmcilmmnpolieaa
open Go.ChangeShapes Go.WideShapes Go.ChangeAt Go.RowKit

/-- w' is w but for new blocks, and for what lies in the blocks of S. -/
structure Only (w w' : World) (S : Nat → Prop) : Prop where
  os : w'.os = w.os
  tape : w'.tape = w.tape
  output : w'.output = w.output
  size : w.heap.size ≤ w'.heap.size
  block : ∀ k, k < w.heap.size → ¬ S k → w'.heap[k]? = w.heap[k]?
theorem Only.refl (w : World) (S : Nat → Prop) : Only w w S := ⟨rfl, rfl, rfl, Nat.le_refl _, fun _ _ _ => rfl⟩
theorem Only.trans {a b c : World} {S T : Nat → Prop} (h : Only a b S) (k : Only b c T) (hT : ∀ i, T i → i < a.heap.size → S i) : Only a c S :=
  ⟨k.os.trans h.os, k.tape.trans h.tape, k.output.trans h.output, Nat.le_trans h.size k.size, fun i hi hs => (k.block i (Nat.lt_of_lt_of_le hi h.size) (fun ht => hs (hT i ht hi))).trans (h.block i hi hs)⟩
theorem Only.of_below {w w' : World} {S : Nat → Prop} (h : Below w.heap.size w w') : Only w w' S := ⟨h.os, h.tape, h.output, h.size, fun k hk _ => h.block k hk⟩
theorem Only.below {w w' : World} {S : Nat → Prop} {B : Nat} (h : Only w w' S) (hB : B ≤ w.heap.size) (hS : ∀ k, S k → B ≤ k) : Below B w w' :=
  ⟨h.os, h.tape, h.output, h.size, fun k hk => h.block k (by omega) (fun hs => by have := hS k hs; omega)⟩
theorem Only.set {w w' : World} {S : Nat → Prop} (h : Only w w' S) {a : Addr} (ha : S a.block ∨ w.heap.size ≤ a.block) (v : Value) : Only w (w'.setCell a v) S :=
  ⟨h.os, h.tape, h.output, by rw [World.size_setCell]; exact h.size, fun k hk hs => by
    refine (Below.heap_setCell _ _ _ _ (fun e => ?_)).trans (h.block k hk hs)
    subst e
    rcases ha with ha | ha
    · exact hs ha
    · omega⟩
theorem Only.grown {w w' w'' : World} {S : Nat → Prop} {row : Option Nat} (h : Only w w' S) (hg : w'.grownBy w'' row) (hr : ∀ k, row = some k → S k ∨ w.heap.size ≤ k) : Only w w'' S :=
  ⟨hg.os.trans h.os, hg.tape.trans h.tape, hg.output.trans h.output, Nat.le_trans h.size hg.size, fun k hk hs => by
    refine (hg.block k (Nat.lt_of_lt_of_le hk h.size) (fun e => ?_)).trans (h.block k hk hs)
    rcases hr k e.symm with h1 | h1
    · exact hs h1
    · omega⟩

end Go.Proofs.Ytmcilmmnpolieaa
