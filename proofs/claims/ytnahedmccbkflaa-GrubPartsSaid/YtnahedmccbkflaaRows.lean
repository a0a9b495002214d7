/-
  No cell of these rows narrows 'for every input' (looked for: loops, veiled, ifaces, maps, wideKeys, modest, calm, conditions, laid).
  DERIVED. THE GIVEN ROWS OF THIS SEAT. 6 by the template 'for every input the law returns true; each argument reads behind the call as it read before'; 0 by the template 'total and deterministic' (their statements: YtnahedmccbkflaaTotals.lean).
  GIVEN WITH THE SEED: the statements are not yours to turn. If you find one false, say at which input.
  Laid BY PROGRAM, IN A SANDBOX (cutbox-rows.mjs): the forced cells as the released guide's own fill.sh prints them over the translation 07a82c8f360c8fdf… (all of the seat's roots in one cut). By AI agents, Wed Nov 11 2026. No macro, syntax, notation, axiom, sorry.
-/
import Derived.Test.YtnahedmccbkflaaChecked
import GoSem.Claim
import GoSem.ClaimJoined
import GoSem.ClaimMapViews
import Derived.JoinedTies
import Derived.KernelRfl
namespace Go.Proofs.Ytnahedmccbkflaa
/- THE CELL 'sum', in the pinned program and in every row, IS THE sha256 OF THE DUMP (.gsa) THAT YtnahedmccbkflaaProg.lean LOADS. Nothing in Lean hashes anything: it is a label: what it is worth is what the hold of that sum in a sandbox is worth. -/
noncomputable def Try.pinned : Pinned := { name := "ytnahedmccbkflaa", sum := "07a82c8f360c8fdf6d0ae3cab2ef63c3fc8fc48d662dafa6336535e70bf26555", checked := Try.checked }
namespace Rows
def none {H : Type} : Left H := { results := [], args := [] }

/-- 'metronomelaw08.GrubRates': WHATEVER THE INPUT: true; the input reads as it did. -/
def grubRatesSpec : ChangeSpec := { name := "grubRates", fn := fun _ => fun
  | [d1, d2] => { results := [.lit (.bool true)], args := [d1, d2] }
  | _ => none }
def grubRatesRow : OpenClaim := { program := "ytnahedmccbkflaa", sum := "07a82c8f360c8fdf6d0ae3cab2ef63c3fc8fc48d662dafa6336535e70bf26555", func := "metronome/metronomelaw08.GrubRates", spec := "grubRates", apart := false }
def GrubRatesSaid : Prop := grubRatesRow.holds Try.pinned (OpenSpec.ofChange grubRatesSpec)

/-- ITS FALSE NEIGHBOUR: 'it returns false'. Refute it at one input. -/
def grubRatesWrong : ChangeSpec := { name := "grubRates", fn := fun _ => fun
  | [d1, d2] => { results := [.lit (.bool false)], args := [d1, d2] }
  | _ => none }
def GrubRatesWrongFalsely : Prop := grubRatesRow.holds Try.pinned (OpenSpec.ofChange grubRatesWrong)

/-- 'metronomelaw08.GrubOrder': WHATEVER THE INPUT: true; the input reads as it did. -/
def grubOrderSpec : ChangeSpec := { name := "grubOrder", fn := fun _ => fun
  | [d1, d2, d3] => { results := [.lit (.bool true)], args := [d1, d2, d3] }
  | _ => none }
def grubOrderRow : OpenClaim := { program := "ytnahedmccbkflaa", sum := "07a82c8f360c8fdf6d0ae3cab2ef63c3fc8fc48d662dafa6336535e70bf26555", func := "metronome/metronomelaw08.GrubOrder", spec := "grubOrder", apart := false }
def GrubOrderSaid : Prop := grubOrderRow.holds Try.pinned (OpenSpec.ofChange grubOrderSpec)

/-- ITS FALSE NEIGHBOUR: 'it returns false'. Refute it at one input. -/
def grubOrderWrong : ChangeSpec := { name := "grubOrder", fn := fun _ => fun
  | [d1, d2, d3] => { results := [.lit (.bool false)], args := [d1, d2, d3] }
  | _ => none }
def GrubOrderWrongFalsely : Prop := grubOrderRow.holds Try.pinned (OpenSpec.ofChange grubOrderWrong)

/-- 'metronomelaw08.GrubMore': WHATEVER THE INPUT: true; the input reads as it did. -/
def grubMoreSpec : ChangeSpec := { name := "grubMore", fn := fun _ => fun
  | [d1, d2, d3] => { results := [.lit (.bool true)], args := [d1, d2, d3] }
  | _ => none }
def grubMoreRow : OpenClaim := { program := "ytnahedmccbkflaa", sum := "07a82c8f360c8fdf6d0ae3cab2ef63c3fc8fc48d662dafa6336535e70bf26555", func := "metronome/metronomelaw08.GrubMore", spec := "grubMore", apart := false }
def GrubMoreSaid : Prop := grubMoreRow.holds Try.pinned (OpenSpec.ofChange grubMoreSpec)

/-- ITS FALSE NEIGHBOUR: 'it returns false'. Refute it at one input. -/
def grubMoreWrong : ChangeSpec := { name := "grubMore", fn := fun _ => fun
  | [d1, d2, d3] => { results := [.lit (.bool false)], args := [d1, d2, d3] }
  | _ => none }
def GrubMoreWrongFalsely : Prop := grubMoreRow.holds Try.pinned (OpenSpec.ofChange grubMoreWrong)

/-- 'metronomelaw08.GrubCharges': WHATEVER THE INPUT: true; the input reads as it did. -/
def grubChargesSpec : ChangeSpec := { name := "grubCharges", fn := fun _ => fun
  | [d1, d2, d3] => { results := [.lit (.bool true)], args := [d1, d2, d3] }
  | _ => none }
def grubChargesRow : OpenClaim := { program := "ytnahedmccbkflaa", sum := "07a82c8f360c8fdf6d0ae3cab2ef63c3fc8fc48d662dafa6336535e70bf26555", func := "metronome/metronomelaw08.GrubCharges", spec := "grubCharges", named := ["math/bits.divideError", "math/bits.overflowError"], apart := false }
def GrubChargesSaid : Prop := grubChargesRow.holds Try.pinned (OpenSpec.ofChange grubChargesSpec)

/-- ITS FALSE NEIGHBOUR: 'it returns false'. Refute it at one input. -/
def grubChargesWrong : ChangeSpec := { name := "grubCharges", fn := fun _ => fun
  | [d1, d2, d3] => { results := [.lit (.bool false)], args := [d1, d2, d3] }
  | _ => none }
def GrubChargesWrongFalsely : Prop := grubChargesRow.holds Try.pinned (OpenSpec.ofChange grubChargesWrong)

/-- 'metronomelaw08.GrubUntil': WHATEVER THE INPUT: true; the input reads as it did. -/
def grubUntilSpec : ChangeSpec := { name := "grubUntil", fn := fun _ => fun
  | [d1, d2, d3] => { results := [.lit (.bool true)], args := [d1, d2, d3] }
  | _ => none }
def grubUntilRow : OpenClaim := { program := "ytnahedmccbkflaa", sum := "07a82c8f360c8fdf6d0ae3cab2ef63c3fc8fc48d662dafa6336535e70bf26555", func := "metronome/metronomelaw08.GrubUntil", spec := "grubUntil", named := ["math/bits.divideError", "math/bits.overflowError"], apart := false }
def GrubUntilSaid : Prop := grubUntilRow.holds Try.pinned (OpenSpec.ofChange grubUntilSpec)

/-- ITS FALSE NEIGHBOUR: 'it returns false'. Refute it at one input. -/
def grubUntilWrong : ChangeSpec := { name := "grubUntil", fn := fun _ => fun
  | [d1, d2, d3] => { results := [.lit (.bool false)], args := [d1, d2, d3] }
  | _ => none }
def GrubUntilWrongFalsely : Prop := grubUntilRow.holds Try.pinned (OpenSpec.ofChange grubUntilWrong)

/-- 'metronomelaw08.GrubParts': WHATEVER THE INPUT: true; the input reads as it did. -/
def grubPartsSpec : ChangeSpec := { name := "grubParts", fn := fun _ => fun
  | [d1, d2, d3] => { results := [.lit (.bool true)], args := [d1, d2, d3] }
  | _ => none }
def grubPartsRow : OpenClaim := { program := "ytnahedmccbkflaa", sum := "07a82c8f360c8fdf6d0ae3cab2ef63c3fc8fc48d662dafa6336535e70bf26555", func := "metronome/metronomelaw08.GrubParts", spec := "grubParts", unfollowed := true, recurses := true, named := ["math/bits.divideError", "math/bits.overflowError"], apart := false }
def GrubPartsSaid : Prop := grubPartsRow.holds Try.pinned (OpenSpec.ofChange grubPartsSpec)

/-- ITS FALSE NEIGHBOUR: 'it returns false'. Refute it at one input. -/
def grubPartsWrong : ChangeSpec := { name := "grubParts", fn := fun _ => fun
  | [d1, d2, d3] => { results := [.lit (.bool false)], args := [d1, d2, d3] }
  | _ => none }
def GrubPartsWrongFalsely : Prop := grubPartsRow.holds Try.pinned (OpenSpec.ofChange grubPartsWrong)

/- THE SECOND FORM. 'bulk': how many values and letters a reading holds, each counted each time it is reached (what is shared counts as often as it is met; a slice's spare places count too). A statement '..UptoSaid' is the law's where the arguments, and the package variables that the reading takes, are together of bulk at most 1048576: NARROWER than '..Said'. Prove '..Said' where nothing that the law and all that it calls make is longer than what came in: it says more and counts as full. Else prove '..UptoSaid'. A law counts once. -/
mutual
def uptoBulk {H : Type} : DataW H → Nat
  | .lit (.string bytes) => bytes.length + 1
  | .lit _ => 1
  | .nil => 1
  | .ptr d => uptoBulk d + 1
  | .slice elems spare => uptoBulkAll elems + uptoBulkAll spare + 1
  | .agg parts => uptoBulkAll parts + 1
  | .iface _ d => uptoBulk d + 1
  | .map entries => uptoBulkEntries entries + 1
  | .held _ => 1
def uptoBulkAll {H : Type} : List (DataW H) → Nat
  | [] => 0
  | d :: r => uptoBulk d + uptoBulkAll r
def uptoBulkEntries {H : Type} : List (Lit × DataW H) → Nat
  | [] => 0
  | x :: r => uptoBulkEntry x + uptoBulkEntries r
def uptoBulkEntry {H : Type} : Lit × DataW H → Nat
  | (.string bytes, d) => bytes.length + uptoBulk d + 1
  | (_, d) => uptoBulk d + 1
 end
def uptoSmall : (H : Type) → List (DataW H) → Bool := fun _ ds => decide (uptoBulkAll ds ≤ 1048576)
def OpenSpec.upto (s : _root_.Go.ChangeSpec) : _root_.Go.OpenSpec := { _root_.Go.OpenSpec.ofChange s with cond := some uptoSmall }

/-- 'metronomelaw08.GrubRates', WHERE WHAT IT READS IS OF BULK AT MOST 1048576: true; the input reads as it did. -/
def grubRatesUptoRow : OpenClaim := { program := "ytnahedmccbkflaa", sum := "07a82c8f360c8fdf6d0ae3cab2ef63c3fc8fc48d662dafa6336535e70bf26555", func := "metronome/metronomelaw08.GrubRates", spec := "grubRates", apart := false, narrowed := true }
def GrubRatesUptoSaid : Prop := grubRatesUptoRow.holds Try.pinned (OpenSpec.upto grubRatesSpec)

/-- 'metronomelaw08.GrubOrder', WHERE WHAT IT READS IS OF BULK AT MOST 1048576: true; the input reads as it did. -/
def grubOrderUptoRow : OpenClaim := { program := "ytnahedmccbkflaa", sum := "07a82c8f360c8fdf6d0ae3cab2ef63c3fc8fc48d662dafa6336535e70bf26555", func := "metronome/metronomelaw08.GrubOrder", spec := "grubOrder", apart := false, narrowed := true }
def GrubOrderUptoSaid : Prop := grubOrderUptoRow.holds Try.pinned (OpenSpec.upto grubOrderSpec)

/-- 'metronomelaw08.GrubMore', WHERE WHAT IT READS IS OF BULK AT MOST 1048576: true; the input reads as it did. -/
def grubMoreUptoRow : OpenClaim := { program := "ytnahedmccbkflaa", sum := "07a82c8f360c8fdf6d0ae3cab2ef63c3fc8fc48d662dafa6336535e70bf26555", func := "metronome/metronomelaw08.GrubMore", spec := "grubMore", apart := false, narrowed := true }
def GrubMoreUptoSaid : Prop := grubMoreUptoRow.holds Try.pinned (OpenSpec.upto grubMoreSpec)

/-- 'metronomelaw08.GrubCharges', WHERE WHAT IT READS IS OF BULK AT MOST 1048576: true; the input reads as it did. -/
def grubChargesUptoRow : OpenClaim := { program := "ytnahedmccbkflaa", sum := "07a82c8f360c8fdf6d0ae3cab2ef63c3fc8fc48d662dafa6336535e70bf26555", func := "metronome/metronomelaw08.GrubCharges", spec := "grubCharges", named := ["math/bits.divideError", "math/bits.overflowError"], apart := false, narrowed := true }
def GrubChargesUptoSaid : Prop := grubChargesUptoRow.holds Try.pinned (OpenSpec.upto grubChargesSpec)

/-- 'metronomelaw08.GrubUntil', WHERE WHAT IT READS IS OF BULK AT MOST 1048576: true; the input reads as it did. -/
def grubUntilUptoRow : OpenClaim := { program := "ytnahedmccbkflaa", sum := "07a82c8f360c8fdf6d0ae3cab2ef63c3fc8fc48d662dafa6336535e70bf26555", func := "metronome/metronomelaw08.GrubUntil", spec := "grubUntil", named := ["math/bits.divideError", "math/bits.overflowError"], apart := false, narrowed := true }
def GrubUntilUptoSaid : Prop := grubUntilUptoRow.holds Try.pinned (OpenSpec.upto grubUntilSpec)

/-- 'metronomelaw08.GrubParts', WHERE WHAT IT READS IS OF BULK AT MOST 1048576: true; the input reads as it did. -/
def grubPartsUptoRow : OpenClaim := { program := "ytnahedmccbkflaa", sum := "07a82c8f360c8fdf6d0ae3cab2ef63c3fc8fc48d662dafa6336535e70bf26555", func := "metronome/metronomelaw08.GrubParts", spec := "grubParts", unfollowed := true, recurses := true, named := ["math/bits.divideError", "math/bits.overflowError"], apart := false, narrowed := true }
def GrubPartsUptoSaid : Prop := grubPartsUptoRow.holds Try.pinned (OpenSpec.upto grubPartsSpec)

end Rows
end Go.Proofs.Ytnahedmccbkflaa
