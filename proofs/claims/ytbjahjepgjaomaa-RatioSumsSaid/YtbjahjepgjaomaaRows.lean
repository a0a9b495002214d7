/-
  No cell of these rows narrows 'for every input' (looked for: loops, veiled, ifaces, maps, wideKeys, modest, calm, conditions, laid).
  DERIVED. THE GIVEN ROWS OF THIS SEAT. 7 by the template 'for every input the law returns true; each argument reads behind the call as it read before'; 0 by the template 'total and deterministic' (their statements: YtbjahjepgjaomaaTotals.lean).
  GIVEN WITH THE SEED: the statements are not yours to turn. If you find one false, say at which input.
  Laid BY PROGRAM, IN A SANDBOX (cutbox-rows.mjs): the forced cells as the released guide's own fill.sh prints them over the translation 2cbd0d469596dac6… (all of the seat's roots in one cut). By AI agents, Wed Nov 11 2026. No macro, syntax, notation, axiom, sorry.
-/
import Derived.Test.YtbjahjepgjaomaaChecked
import GoSem.Claim
import GoSem.ClaimJoined
import GoSem.ClaimMapViews
import Derived.JoinedTies
import Derived.KernelRfl
namespace Go.Proofs.Ytbjahjepgjaomaa
/- THE CELL 'sum', in the pinned program and in every row, IS THE sha256 OF THE DUMP (.gsa) THAT YtbjahjepgjaomaaProg.lean LOADS. Nothing in Lean hashes anything: it is a label: what it is worth is what the hold of that sum in a sandbox is worth. -/
noncomputable def Try.pinned : Pinned := { name := "ytbjahjepgjaomaa", sum := "2cbd0d469596dac6ccb0840f0b2164a1f8148f12d0c994b0a1769d9462e943e4", checked := Try.checked }
namespace Rows
def none {H : Type} : Left H := { results := [], args := [] }

/-- 'metronomelaw02.RatioTells': WHATEVER THE INPUT: true; the input reads as it did. -/
def ratioTellsSpec : ChangeSpec := { name := "ratioTells", fn := fun _ => fun
  | [d1, d2, d3] => { results := [.lit (.bool true)], args := [d1, d2, d3] }
  | _ => none }
def ratioTellsRow : OpenClaim := { program := "ytbjahjepgjaomaa", sum := "2cbd0d469596dac6ccb0840f0b2164a1f8148f12d0c994b0a1769d9462e943e4", func := "metronome/metronomelaw02.RatioTells", spec := "ratioTells", named := ["math/bits.divideError", "math/bits.overflowError"], apart := false }
def RatioTellsSaid : Prop := ratioTellsRow.holds Try.pinned (OpenSpec.ofChange ratioTellsSpec)

/-- ITS FALSE NEIGHBOUR: 'it returns false'. Refute it at one input. -/
def ratioTellsWrong : ChangeSpec := { name := "ratioTells", fn := fun _ => fun
  | [d1, d2, d3] => { results := [.lit (.bool false)], args := [d1, d2, d3] }
  | _ => none }
def RatioTellsWrongFalsely : Prop := ratioTellsRow.holds Try.pinned (OpenSpec.ofChange ratioTellsWrong)

/-- 'metronomelaw02.RatioOrder': WHATEVER THE INPUT: true; the input reads as it did. -/
def ratioOrderSpec : ChangeSpec := { name := "ratioOrder", fn := fun _ => fun
  | [d1, d2, d3] => { results := [.lit (.bool true)], args := [d1, d2, d3] }
  | _ => none }
def ratioOrderRow : OpenClaim := { program := "ytbjahjepgjaomaa", sum := "2cbd0d469596dac6ccb0840f0b2164a1f8148f12d0c994b0a1769d9462e943e4", func := "metronome/metronomelaw02.RatioOrder", spec := "ratioOrder", named := ["math/bits.divideError", "math/bits.overflowError"], apart := false }
def RatioOrderSaid : Prop := ratioOrderRow.holds Try.pinned (OpenSpec.ofChange ratioOrderSpec)

/-- ITS FALSE NEIGHBOUR: 'it returns false'. Refute it at one input. -/
def ratioOrderWrong : ChangeSpec := { name := "ratioOrder", fn := fun _ => fun
  | [d1, d2, d3] => { results := [.lit (.bool false)], args := [d1, d2, d3] }
  | _ => none }
def RatioOrderWrongFalsely : Prop := ratioOrderRow.holds Try.pinned (OpenSpec.ofChange ratioOrderWrong)

/-- 'metronomelaw02.RatioParts': WHATEVER THE INPUT: true; the input reads as it did. -/
def ratioPartsSpec : ChangeSpec := { name := "ratioParts", fn := fun _ => fun
  | [d1, d2] => { results := [.lit (.bool true)], args := [d1, d2] }
  | _ => none }
def ratioPartsRow : OpenClaim := { program := "ytbjahjepgjaomaa", sum := "2cbd0d469596dac6ccb0840f0b2164a1f8148f12d0c994b0a1769d9462e943e4", func := "metronome/metronomelaw02.RatioParts", spec := "ratioParts", named := ["math/bits.divideError", "math/bits.overflowError"], apart := false }
def RatioPartsSaid : Prop := ratioPartsRow.holds Try.pinned (OpenSpec.ofChange ratioPartsSpec)

/-- ITS FALSE NEIGHBOUR: 'it returns false'. Refute it at one input. -/
def ratioPartsWrong : ChangeSpec := { name := "ratioParts", fn := fun _ => fun
  | [d1, d2] => { results := [.lit (.bool false)], args := [d1, d2] }
  | _ => none }
def RatioPartsWrongFalsely : Prop := ratioPartsRow.holds Try.pinned (OpenSpec.ofChange ratioPartsWrong)

/-- 'metronomelaw02.RatioShares': WHATEVER THE INPUT: true; the input reads as it did. -/
def ratioSharesSpec : ChangeSpec := { name := "ratioShares", fn := fun _ => fun
  | [d1, d2] => { results := [.lit (.bool true)], args := [d1, d2] }
  | _ => none }
def ratioSharesRow : OpenClaim := { program := "ytbjahjepgjaomaa", sum := "2cbd0d469596dac6ccb0840f0b2164a1f8148f12d0c994b0a1769d9462e943e4", func := "metronome/metronomelaw02.RatioShares", spec := "ratioShares", named := ["math/bits.divideError", "math/bits.overflowError"], apart := false }
def RatioSharesSaid : Prop := ratioSharesRow.holds Try.pinned (OpenSpec.ofChange ratioSharesSpec)

/-- ITS FALSE NEIGHBOUR: 'it returns false'. Refute it at one input. -/
def ratioSharesWrong : ChangeSpec := { name := "ratioShares", fn := fun _ => fun
  | [d1, d2] => { results := [.lit (.bool false)], args := [d1, d2] }
  | _ => none }
def RatioSharesWrongFalsely : Prop := ratioSharesRow.holds Try.pinned (OpenSpec.ofChange ratioSharesWrong)

/-- 'metronomelaw02.RatioParams': WHATEVER THE INPUT: true; the input reads as it did. -/
def ratioParamsSpec : ChangeSpec := { name := "ratioParams", fn := fun _ => fun
  | [d] => { results := [.lit (.bool true)], args := [d] }
  | _ => none }
def ratioParamsRow : OpenClaim := { program := "ytbjahjepgjaomaa", sum := "2cbd0d469596dac6ccb0840f0b2164a1f8148f12d0c994b0a1769d9462e943e4", func := "metronome/metronomelaw02.RatioParams", spec := "ratioParams", named := ["math/bits.divideError", "math/bits.overflowError"], apart := false }
def RatioParamsSaid : Prop := ratioParamsRow.holds Try.pinned (OpenSpec.ofChange ratioParamsSpec)

/-- ITS FALSE NEIGHBOUR: 'it returns false'. Refute it at one input. -/
def ratioParamsWrong : ChangeSpec := { name := "ratioParams", fn := fun _ => fun
  | [d] => { results := [.lit (.bool false)], args := [d] }
  | _ => none }
def RatioParamsWrongFalsely : Prop := ratioParamsRow.holds Try.pinned (OpenSpec.ofChange ratioParamsWrong)

/-- 'metronomelaw02.RatioScales': WHATEVER THE INPUT: true; the input reads as it did. -/
def ratioScalesSpec : ChangeSpec := { name := "ratioScales", fn := fun _ => fun
  | [d1, d2, d3] => { results := [.lit (.bool true)], args := [d1, d2, d3] }
  | _ => none }
def ratioScalesRow : OpenClaim := { program := "ytbjahjepgjaomaa", sum := "2cbd0d469596dac6ccb0840f0b2164a1f8148f12d0c994b0a1769d9462e943e4", func := "metronome/metronomelaw02.RatioScales", spec := "ratioScales", unfollowed := true, recurses := true, named := ["math/bits.divideError", "math/bits.overflowError"], apart := false }
def RatioScalesSaid : Prop := ratioScalesRow.holds Try.pinned (OpenSpec.ofChange ratioScalesSpec)

/-- ITS FALSE NEIGHBOUR: 'it returns false'. Refute it at one input. -/
def ratioScalesWrong : ChangeSpec := { name := "ratioScales", fn := fun _ => fun
  | [d1, d2, d3] => { results := [.lit (.bool false)], args := [d1, d2, d3] }
  | _ => none }
def RatioScalesWrongFalsely : Prop := ratioScalesRow.holds Try.pinned (OpenSpec.ofChange ratioScalesWrong)

/-- 'metronomelaw02.RatioSums': WHATEVER THE INPUT: true; the input reads as it did. -/
def ratioSumsSpec : ChangeSpec := { name := "ratioSums", fn := fun _ => fun
  | [d] => { results := [.lit (.bool true)], args := [d] }
  | _ => none }
def ratioSumsRow : OpenClaim := { program := "ytbjahjepgjaomaa", sum := "2cbd0d469596dac6ccb0840f0b2164a1f8148f12d0c994b0a1769d9462e943e4", func := "metronome/metronomelaw02.RatioSums", spec := "ratioSums", unfollowed := true, recurses := true, named := ["math/bits.divideError", "math/bits.overflowError"], apart := false }
def RatioSumsSaid : Prop := ratioSumsRow.holds Try.pinned (OpenSpec.ofChange ratioSumsSpec)

/-- ITS FALSE NEIGHBOUR: 'it returns false'. Refute it at one input. -/
def ratioSumsWrong : ChangeSpec := { name := "ratioSums", fn := fun _ => fun
  | [d] => { results := [.lit (.bool false)], args := [d] }
  | _ => none }
def RatioSumsWrongFalsely : Prop := ratioSumsRow.holds Try.pinned (OpenSpec.ofChange ratioSumsWrong)

/- THE SECOND FORM. 'bulk': how many values and letters a reading holds, each counted each time it is reached (what is shared counts as often as it is met; a slice's spare places count too). A statement '..UptoSaid' is the law's where the arguments, and the package variables that the reading takes, are together of bulk at most 1048576: NARROWER than '..Said'. Prove '..Said' where nothing that the law and all that it calls make is longer than what came in: it says more and counts as full. Else prove '..UptoSaid'. A law counts once. -/
mutual
def uptoBulk {H : Type} : DataW H → Nat
  | .lit (.string bytes) => bytes.length + 1
  | .lit _ => 1
  | .nil => 1
  | .ptr d => uptoBulk d + 1
  | .slice elems spare => uptoBulkAll elems + uptoBulkAll spare + 1
  | .agg parts => uptoBulkAll parts + 1
  | .iface _ d => uptoBulk d + 1
  | .map entries => uptoBulkEntries entries + 1
  | .held _ => 1
def uptoBulkAll {H : Type} : List (DataW H) → Nat
  | [] => 0
  | d :: r => uptoBulk d + uptoBulkAll r
def uptoBulkEntries {H : Type} : List (Lit × DataW H) → Nat
  | [] => 0
  | x :: r => uptoBulkEntry x + uptoBulkEntries r
def uptoBulkEntry {H : Type} : Lit × DataW H → Nat
  | (.string bytes, d) => bytes.length + uptoBulk d + 1
  | (_, d) => uptoBulk d + 1
 end
def uptoSmall : (H : Type) → List (DataW H) → Bool := fun _ ds => decide (uptoBulkAll ds ≤ 1048576)
def OpenSpec.upto (s : _root_.Go.ChangeSpec) : _root_.Go.OpenSpec := { _root_.Go.OpenSpec.ofChange s with cond := some uptoSmall }

/-- 'metronomelaw02.RatioTells', WHERE WHAT IT READS IS OF BULK AT MOST 1048576: true; the input reads as it did. -/
def ratioTellsUptoRow : OpenClaim := { program := "ytbjahjepgjaomaa", sum := "2cbd0d469596dac6ccb0840f0b2164a1f8148f12d0c994b0a1769d9462e943e4", func := "metronome/metronomelaw02.RatioTells", spec := "ratioTells", named := ["math/bits.divideError", "math/bits.overflowError"], apart := false, narrowed := true }
def RatioTellsUptoSaid : Prop := ratioTellsUptoRow.holds Try.pinned (OpenSpec.upto ratioTellsSpec)

/-- 'metronomelaw02.RatioOrder', WHERE WHAT IT READS IS OF BULK AT MOST 1048576: true; the input reads as it did. -/
def ratioOrderUptoRow : OpenClaim := { program := "ytbjahjepgjaomaa", sum := "2cbd0d469596dac6ccb0840f0b2164a1f8148f12d0c994b0a1769d9462e943e4", func := "metronome/metronomelaw02.RatioOrder", spec := "ratioOrder", named := ["math/bits.divideError", "math/bits.overflowError"], apart := false, narrowed := true }
def RatioOrderUptoSaid : Prop := ratioOrderUptoRow.holds Try.pinned (OpenSpec.upto ratioOrderSpec)

/-- 'metronomelaw02.RatioParts', WHERE WHAT IT READS IS OF BULK AT MOST 1048576: true; the input reads as it did. -/
def ratioPartsUptoRow : OpenClaim := { program := "ytbjahjepgjaomaa", sum := "2cbd0d469596dac6ccb0840f0b2164a1f8148f12d0c994b0a1769d9462e943e4", func := "metronome/metronomelaw02.RatioParts", spec := "ratioParts", named := ["math/bits.divideError", "math/bits.overflowError"], apart := false, narrowed := true }
def RatioPartsUptoSaid : Prop := ratioPartsUptoRow.holds Try.pinned (OpenSpec.upto ratioPartsSpec)

/-- 'metronomelaw02.RatioShares', WHERE WHAT IT READS IS OF BULK AT MOST 1048576: true; the input reads as it did. -/
def ratioSharesUptoRow : OpenClaim := { program := "ytbjahjepgjaomaa", sum := "2cbd0d469596dac6ccb0840f0b2164a1f8148f12d0c994b0a1769d9462e943e4", func := "metronome/metronomelaw02.RatioShares", spec := "ratioShares", named := ["math/bits.divideError", "math/bits.overflowError"], apart := false, narrowed := true }
def RatioSharesUptoSaid : Prop := ratioSharesUptoRow.holds Try.pinned (OpenSpec.upto ratioSharesSpec)

/-- 'metronomelaw02.RatioParams', WHERE WHAT IT READS IS OF BULK AT MOST 1048576: true; the input reads as it did. -/
def ratioParamsUptoRow : OpenClaim := { program := "ytbjahjepgjaomaa", sum := "2cbd0d469596dac6ccb0840f0b2164a1f8148f12d0c994b0a1769d9462e943e4", func := "metronome/metronomelaw02.RatioParams", spec := "ratioParams", named := ["math/bits.divideError", "math/bits.overflowError"], apart := false, narrowed := true }
def RatioParamsUptoSaid : Prop := ratioParamsUptoRow.holds Try.pinned (OpenSpec.upto ratioParamsSpec)

/-- 'metronomelaw02.RatioScales', WHERE WHAT IT READS IS OF BULK AT MOST 1048576: true; the input reads as it did. -/
def ratioScalesUptoRow : OpenClaim := { program := "ytbjahjepgjaomaa", sum := "2cbd0d469596dac6ccb0840f0b2164a1f8148f12d0c994b0a1769d9462e943e4", func := "metronome/metronomelaw02.RatioScales", spec := "ratioScales", unfollowed := true, recurses := true, named := ["math/bits.divideError", "math/bits.overflowError"], apart := false, narrowed := true }
def RatioScalesUptoSaid : Prop := ratioScalesUptoRow.holds Try.pinned (OpenSpec.upto ratioScalesSpec)

/-- 'metronomelaw02.RatioSums', WHERE WHAT IT READS IS OF BULK AT MOST 1048576: true; the input reads as it did. -/
def ratioSumsUptoRow : OpenClaim := { program := "ytbjahjepgjaomaa", sum := "2cbd0d469596dac6ccb0840f0b2164a1f8148f12d0c994b0a1769d9462e943e4", func := "metronome/metronomelaw02.RatioSums", spec := "ratioSums", unfollowed := true, recurses := true, named := ["math/bits.divideError", "math/bits.overflowError"], apart := false, narrowed := true }
def RatioSumsUptoSaid : Prop := ratioSumsUptoRow.holds Try.pinned (OpenSpec.upto ratioSumsSpec)

end Rows
end Go.Proofs.Ytbjahjepgjaomaa
