/-
  No cell of these rows narrows 'for every input' (looked for: loops, veiled, ifaces, maps, wideKeys, modest, calm, conditions, laid).
  DERIVED. THE GIVEN ROWS OF THIS SEAT. 8 by the template 'for every input the law returns true; each argument reads behind the call as it read before'; 0 by the template 'total and deterministic' (their statements: YtgdgfcogmfhpcaaTotals.lean).
  GIVEN WITH THE SEED: the statements are not yours to turn. If you find one false, say at which input.
  Laid BY PROGRAM, IN A SANDBOX (cutbox-rows.mjs): the forced cells as the released guide's own fill.sh prints them over the translation b9d408c97a94260f… (all of the seat's roots in one cut). By AI agents, Wed Nov 11 2026. No macro, syntax, notation, axiom, sorry.
-/
import Derived.Test.YtgdgfcogmfhpcaaChecked
import GoSem.Claim
import GoSem.ClaimJoined
import GoSem.ClaimMapViews
import Derived.JoinedTies
import Derived.KernelRfl
namespace Go.Proofs.Ytgdgfcogmfhpcaa
/- THE CELL 'sum', in the pinned program and in every row, IS THE sha256 OF THE DUMP (.gsa) THAT YtgdgfcogmfhpcaaProg.lean LOADS. Nothing in Lean hashes anything: it is a label: what it is worth is what the hold of that sum in a sandbox is worth. -/
noncomputable def Try.pinned : Pinned := { name := "ytgdgfcogmfhpcaa", sum := "b9d408c97a94260f449f5e6bed7afc857772857930d52c38eb76ea4ef549e41c", checked := Try.checked }
namespace Rows
def none {H : Type} : Left H := { results := [], args := [] }

/-- 'metronomelaw01.NumDivs': WHATEVER THE INPUT: true; the input reads as it did. -/
def numDivsSpec : ChangeSpec := { name := "numDivs", fn := fun _ => fun
  | [d1, d2] => { results := [.lit (.bool true)], args := [d1, d2] }
  | _ => none }
def numDivsRow : OpenClaim := { program := "ytgdgfcogmfhpcaa", sum := "b9d408c97a94260f449f5e6bed7afc857772857930d52c38eb76ea4ef549e41c", func := "metronome/metronomelaw01.NumDivs", spec := "numDivs", unfollowed := true, recurses := true, named := ["math/bits.divideError", "math/bits.overflowError"], apart := false }
def NumDivsSaid : Prop := numDivsRow.holds Try.pinned (OpenSpec.ofChange numDivsSpec)

/-- ITS FALSE NEIGHBOUR: 'it returns false'. Refute it at one input. -/
def numDivsWrong : ChangeSpec := { name := "numDivs", fn := fun _ => fun
  | [d1, d2] => { results := [.lit (.bool false)], args := [d1, d2] }
  | _ => none }
def NumDivsWrongFalsely : Prop := numDivsRow.holds Try.pinned (OpenSpec.ofChange numDivsWrong)

/-- 'metronomelaw01.NumSums': WHATEVER THE INPUT: true; the input reads as it did. -/
def numSumsSpec : ChangeSpec := { name := "numSums", fn := fun _ => fun
  | [d] => { results := [.lit (.bool true)], args := [d] }
  | _ => none }
def numSumsRow : OpenClaim := { program := "ytgdgfcogmfhpcaa", sum := "b9d408c97a94260f449f5e6bed7afc857772857930d52c38eb76ea4ef549e41c", func := "metronome/metronomelaw01.NumSums", spec := "numSums", unfollowed := true, recurses := true, named := ["math/bits.divideError", "math/bits.overflowError"], apart := false }
def NumSumsSaid : Prop := numSumsRow.holds Try.pinned (OpenSpec.ofChange numSumsSpec)

/-- ITS FALSE NEIGHBOUR: 'it returns false'. Refute it at one input. -/
def numSumsWrong : ChangeSpec := { name := "numSums", fn := fun _ => fun
  | [d] => { results := [.lit (.bool false)], args := [d] }
  | _ => none }
def NumSumsWrongFalsely : Prop := numSumsRow.holds Try.pinned (OpenSpec.ofChange numSumsWrong)

/-- 'metronomelaw01.NumOrder': WHATEVER THE INPUT: true; the input reads as it did. -/
def numOrderSpec : ChangeSpec := { name := "numOrder", fn := fun _ => fun
  | [d1, d2] => { results := [.lit (.bool true)], args := [d1, d2] }
  | _ => none }
def numOrderRow : OpenClaim := { program := "ytgdgfcogmfhpcaa", sum := "b9d408c97a94260f449f5e6bed7afc857772857930d52c38eb76ea4ef549e41c", func := "metronome/metronomelaw01.NumOrder", spec := "numOrder", unfollowed := true, recurses := true, named := ["math/bits.divideError", "math/bits.overflowError"], apart := false }
def NumOrderSaid : Prop := numOrderRow.holds Try.pinned (OpenSpec.ofChange numOrderSpec)

/-- ITS FALSE NEIGHBOUR: 'it returns false'. Refute it at one input. -/
def numOrderWrong : ChangeSpec := { name := "numOrder", fn := fun _ => fun
  | [d1, d2] => { results := [.lit (.bool false)], args := [d1, d2] }
  | _ => none }
def NumOrderWrongFalsely : Prop := numOrderRow.holds Try.pinned (OpenSpec.ofChange numOrderWrong)

/-- 'metronomelaw01.NumWide': WHATEVER THE INPUT: true; the input reads as it did. -/
def numWideSpec : ChangeSpec := { name := "numWide", fn := fun _ => fun
  | [d] => { results := [.lit (.bool true)], args := [d] }
  | _ => none }
def numWideRow : OpenClaim := { program := "ytgdgfcogmfhpcaa", sum := "b9d408c97a94260f449f5e6bed7afc857772857930d52c38eb76ea4ef549e41c", func := "metronome/metronomelaw01.NumWide", spec := "numWide", inPlace := ["math/bits.Add64"], unfollowed := true, recurses := true, named := ["math/bits.divideError", "math/bits.overflowError"], apart := false }
def NumWideSaid : Prop := numWideRow.holds Try.pinned (OpenSpec.ofChange numWideSpec)

/-- ITS FALSE NEIGHBOUR: 'it returns false'. Refute it at one input. -/
def numWideWrong : ChangeSpec := { name := "numWide", fn := fun _ => fun
  | [d] => { results := [.lit (.bool false)], args := [d] }
  | _ => none }
def NumWideWrongFalsely : Prop := numWideRow.holds Try.pinned (OpenSpec.ofChange numWideWrong)

/-- 'metronomelaw01.NumAdds': WHATEVER THE INPUT: true; the input reads as it did. -/
def numAddsSpec : ChangeSpec := { name := "numAdds", fn := fun _ => fun
  | [d1, d2] => { results := [.lit (.bool true)], args := [d1, d2] }
  | _ => none }
def numAddsRow : OpenClaim := { program := "ytgdgfcogmfhpcaa", sum := "b9d408c97a94260f449f5e6bed7afc857772857930d52c38eb76ea4ef549e41c", func := "metronome/metronomelaw01.NumAdds", spec := "numAdds", inPlace := ["math/bits.Add64"], unfollowed := true, recurses := true, named := ["math/bits.divideError", "math/bits.overflowError"], apart := false }
def NumAddsSaid : Prop := numAddsRow.holds Try.pinned (OpenSpec.ofChange numAddsSpec)

/-- ITS FALSE NEIGHBOUR: 'it returns false'. Refute it at one input. -/
def numAddsWrong : ChangeSpec := { name := "numAdds", fn := fun _ => fun
  | [d1, d2] => { results := [.lit (.bool false)], args := [d1, d2] }
  | _ => none }
def NumAddsWrongFalsely : Prop := numAddsRow.holds Try.pinned (OpenSpec.ofChange numAddsWrong)

/-- 'metronomelaw01.NumCompare': WHATEVER THE INPUT: true; the input reads as it did. -/
def numCompareSpec : ChangeSpec := { name := "numCompare", fn := fun _ => fun
  | [d1, d2, d3] => { results := [.lit (.bool true)], args := [d1, d2, d3] }
  | _ => none }
def numCompareRow : OpenClaim := { program := "ytgdgfcogmfhpcaa", sum := "b9d408c97a94260f449f5e6bed7afc857772857930d52c38eb76ea4ef549e41c", func := "metronome/metronomelaw01.NumCompare", spec := "numCompare", inPlace := ["math/bits.Add64"], unfollowed := true, recurses := true, named := ["math/bits.divideError", "math/bits.overflowError"], apart := false }
def NumCompareSaid : Prop := numCompareRow.holds Try.pinned (OpenSpec.ofChange numCompareSpec)

/-- ITS FALSE NEIGHBOUR: 'it returns false'. Refute it at one input. -/
def numCompareWrong : ChangeSpec := { name := "numCompare", fn := fun _ => fun
  | [d1, d2, d3] => { results := [.lit (.bool false)], args := [d1, d2, d3] }
  | _ => none }
def NumCompareWrongFalsely : Prop := numCompareRow.holds Try.pinned (OpenSpec.ofChange numCompareWrong)

/-- 'metronomelaw01.NumTimes': WHATEVER THE INPUT: true; the input reads as it did. -/
def numTimesSpec : ChangeSpec := { name := "numTimes", fn := fun _ => fun
  | [d1, d2] => { results := [.lit (.bool true)], args := [d1, d2] }
  | _ => none }
def numTimesRow : OpenClaim := { program := "ytgdgfcogmfhpcaa", sum := "b9d408c97a94260f449f5e6bed7afc857772857930d52c38eb76ea4ef549e41c", func := "metronome/metronomelaw01.NumTimes", spec := "numTimes", unfollowed := true, recurses := true, named := ["math/bits.divideError", "math/bits.overflowError"], apart := false }
def NumTimesSaid : Prop := numTimesRow.holds Try.pinned (OpenSpec.ofChange numTimesSpec)

/-- ITS FALSE NEIGHBOUR: 'it returns false'. Refute it at one input. -/
def numTimesWrong : ChangeSpec := { name := "numTimes", fn := fun _ => fun
  | [d1, d2] => { results := [.lit (.bool false)], args := [d1, d2] }
  | _ => none }
def NumTimesWrongFalsely : Prop := numTimesRow.holds Try.pinned (OpenSpec.ofChange numTimesWrong)

/-- 'metronomelaw01.NumAfter': WHATEVER THE INPUT: true; the input reads as it did. -/
def numAfterSpec : ChangeSpec := { name := "numAfter", fn := fun _ => fun
  | [d1, d2] => { results := [.lit (.bool true)], args := [d1, d2] }
  | _ => none }
def numAfterRow : OpenClaim := { program := "ytgdgfcogmfhpcaa", sum := "b9d408c97a94260f449f5e6bed7afc857772857930d52c38eb76ea4ef549e41c", func := "metronome/metronomelaw01.NumAfter", spec := "numAfter", unfollowed := true, recurses := true, named := ["math/bits.divideError", "math/bits.overflowError"], apart := false }
def NumAfterSaid : Prop := numAfterRow.holds Try.pinned (OpenSpec.ofChange numAfterSpec)

/-- ITS FALSE NEIGHBOUR: 'it returns false'. Refute it at one input. -/
def numAfterWrong : ChangeSpec := { name := "numAfter", fn := fun _ => fun
  | [d1, d2] => { results := [.lit (.bool false)], args := [d1, d2] }
  | _ => none }
def NumAfterWrongFalsely : Prop := numAfterRow.holds Try.pinned (OpenSpec.ofChange numAfterWrong)

/- THE SECOND FORM. 'bulk': how many values and letters a reading holds, each counted each time it is reached (what is shared counts as often as it is met; a slice's spare places count too). A statement '..UptoSaid' is the law's where the arguments, and the package variables that the reading takes, are together of bulk at most 1048576: NARROWER than '..Said'. Prove '..Said' where nothing that the law and all that it calls make is longer than what came in: it says more and counts as full. Else prove '..UptoSaid'. A law counts once. -/
mutual
def uptoBulk {H : Type} : DataW H → Nat
  | .lit (.string bytes) => bytes.length + 1
  | .lit _ => 1
  | .nil => 1
  | .ptr d => uptoBulk d + 1
  | .slice elems spare => uptoBulkAll elems + uptoBulkAll spare + 1
  | .agg parts => uptoBulkAll parts + 1
  | .iface _ d => uptoBulk d + 1
  | .map entries => uptoBulkEntries entries + 1
  | .held _ => 1
def uptoBulkAll {H : Type} : List (DataW H) → Nat
  | [] => 0
  | d :: r => uptoBulk d + uptoBulkAll r
def uptoBulkEntries {H : Type} : List (Lit × DataW H) → Nat
  | [] => 0
  | x :: r => uptoBulkEntry x + uptoBulkEntries r
def uptoBulkEntry {H : Type} : Lit × DataW H → Nat
  | (.string bytes, d) => bytes.length + uptoBulk d + 1
  | (_, d) => uptoBulk d + 1
 end
def uptoSmall : (H : Type) → List (DataW H) → Bool := fun _ ds => decide (uptoBulkAll ds ≤ 1048576)
def OpenSpec.upto (s : _root_.Go.ChangeSpec) : _root_.Go.OpenSpec := { _root_.Go.OpenSpec.ofChange s with cond := some uptoSmall }

/-- 'metronomelaw01.NumDivs', WHERE WHAT IT READS IS OF BULK AT MOST 1048576: true; the input reads as it did. -/
def numDivsUptoRow : OpenClaim := { program := "ytgdgfcogmfhpcaa", sum := "b9d408c97a94260f449f5e6bed7afc857772857930d52c38eb76ea4ef549e41c", func := "metronome/metronomelaw01.NumDivs", spec := "numDivs", unfollowed := true, recurses := true, named := ["math/bits.divideError", "math/bits.overflowError"], apart := false, narrowed := true }
def NumDivsUptoSaid : Prop := numDivsUptoRow.holds Try.pinned (OpenSpec.upto numDivsSpec)

/-- 'metronomelaw01.NumSums', WHERE WHAT IT READS IS OF BULK AT MOST 1048576: true; the input reads as it did. -/
def numSumsUptoRow : OpenClaim := { program := "ytgdgfcogmfhpcaa", sum := "b9d408c97a94260f449f5e6bed7afc857772857930d52c38eb76ea4ef549e41c", func := "metronome/metronomelaw01.NumSums", spec := "numSums", unfollowed := true, recurses := true, named := ["math/bits.divideError", "math/bits.overflowError"], apart := false, narrowed := true }
def NumSumsUptoSaid : Prop := numSumsUptoRow.holds Try.pinned (OpenSpec.upto numSumsSpec)

/-- 'metronomelaw01.NumOrder', WHERE WHAT IT READS IS OF BULK AT MOST 1048576: true; the input reads as it did. -/
def numOrderUptoRow : OpenClaim := { program := "ytgdgfcogmfhpcaa", sum := "b9d408c97a94260f449f5e6bed7afc857772857930d52c38eb76ea4ef549e41c", func := "metronome/metronomelaw01.NumOrder", spec := "numOrder", unfollowed := true, recurses := true, named := ["math/bits.divideError", "math/bits.overflowError"], apart := false, narrowed := true }
def NumOrderUptoSaid : Prop := numOrderUptoRow.holds Try.pinned (OpenSpec.upto numOrderSpec)

/-- 'metronomelaw01.NumWide', WHERE WHAT IT READS IS OF BULK AT MOST 1048576: true; the input reads as it did. -/
def numWideUptoRow : OpenClaim := { program := "ytgdgfcogmfhpcaa", sum := "b9d408c97a94260f449f5e6bed7afc857772857930d52c38eb76ea4ef549e41c", func := "metronome/metronomelaw01.NumWide", spec := "numWide", inPlace := ["math/bits.Add64"], unfollowed := true, recurses := true, named := ["math/bits.divideError", "math/bits.overflowError"], apart := false, narrowed := true }
def NumWideUptoSaid : Prop := numWideUptoRow.holds Try.pinned (OpenSpec.upto numWideSpec)

/-- 'metronomelaw01.NumAdds', WHERE WHAT IT READS IS OF BULK AT MOST 1048576: true; the input reads as it did. -/
def numAddsUptoRow : OpenClaim := { program := "ytgdgfcogmfhpcaa", sum := "b9d408c97a94260f449f5e6bed7afc857772857930d52c38eb76ea4ef549e41c", func := "metronome/metronomelaw01.NumAdds", spec := "numAdds", inPlace := ["math/bits.Add64"], unfollowed := true, recurses := true, named := ["math/bits.divideError", "math/bits.overflowError"], apart := false, narrowed := true }
def NumAddsUptoSaid : Prop := numAddsUptoRow.holds Try.pinned (OpenSpec.upto numAddsSpec)

/-- 'metronomelaw01.NumCompare', WHERE WHAT IT READS IS OF BULK AT MOST 1048576: true; the input reads as it did. -/
def numCompareUptoRow : OpenClaim := { program := "ytgdgfcogmfhpcaa", sum := "b9d408c97a94260f449f5e6bed7afc857772857930d52c38eb76ea4ef549e41c", func := "metronome/metronomelaw01.NumCompare", spec := "numCompare", inPlace := ["math/bits.Add64"], unfollowed := true, recurses := true, named := ["math/bits.divideError", "math/bits.overflowError"], apart := false, narrowed := true }
def NumCompareUptoSaid : Prop := numCompareUptoRow.holds Try.pinned (OpenSpec.upto numCompareSpec)

/-- 'metronomelaw01.NumTimes', WHERE WHAT IT READS IS OF BULK AT MOST 1048576: true; the input reads as it did. -/
def numTimesUptoRow : OpenClaim := { program := "ytgdgfcogmfhpcaa", sum := "b9d408c97a94260f449f5e6bed7afc857772857930d52c38eb76ea4ef549e41c", func := "metronome/metronomelaw01.NumTimes", spec := "numTimes", unfollowed := true, recurses := true, named := ["math/bits.divideError", "math/bits.overflowError"], apart := false, narrowed := true }
def NumTimesUptoSaid : Prop := numTimesUptoRow.holds Try.pinned (OpenSpec.upto numTimesSpec)

/-- 'metronomelaw01.NumAfter', WHERE WHAT IT READS IS OF BULK AT MOST 1048576: true; the input reads as it did. -/
def numAfterUptoRow : OpenClaim := { program := "ytgdgfcogmfhpcaa", sum := "b9d408c97a94260f449f5e6bed7afc857772857930d52c38eb76ea4ef549e41c", func := "metronome/metronomelaw01.NumAfter", spec := "numAfter", unfollowed := true, recurses := true, named := ["math/bits.divideError", "math/bits.overflowError"], apart := false, narrowed := true }
def NumAfterUptoSaid : Prop := numAfterUptoRow.holds Try.pinned (OpenSpec.upto numAfterSpec)

end Rows
end Go.Proofs.Ytgdgfcogmfhpcaa
