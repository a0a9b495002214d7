/-
  No cell of these rows narrows 'for every input' (looked for: loops, veiled, ifaces, maps, wideKeys, modest, calm, conditions, laid).
  DERIVED. THE GIVEN ROWS OF THIS SEAT. 5 by the template 'for every input the law returns true; each argument reads behind the call as it read before'; 0 by the template 'total and deterministic' (their statements: YtfpifaccjfgfkaaTotals.lean).
  GIVEN WITH THE SEED: the statements are not yours to turn. If you find one false, say at which input.
  Laid BY PROGRAM, IN A SANDBOX (cutbox-rows.mjs): the forced cells as the released guide's own fill.sh prints them over the translation 63649855a191dc32… (all of the seat's roots in one cut). By AI agents, Wed Nov 11 2026. No macro, syntax, notation, axiom, sorry.
-/
import Derived.Test.YtfpifaccjfgfkaaChecked
import GoSem.Claim
import GoSem.ClaimJoined
import GoSem.ClaimMapViews
import Derived.JoinedTies
import Derived.KernelRfl
namespace Go.Proofs.Ytfpifaccjfgfkaa
/- THE CELL 'sum', in the pinned program and in every row, IS THE sha256 OF THE DUMP (.gsa) THAT YtfpifaccjfgfkaaProg.lean LOADS. Nothing in Lean hashes anything: it is a label: what it is worth is what the hold of that sum in a sandbox is worth. -/
noncomputable def Try.pinned : Pinned := { name := "ytfpifaccjfgfkaa", sum := "63649855a191dc323b89883c731a0fb95f2f09aa27a2412c223d035676ae28dd", checked := Try.checked }
namespace Rows
def none {H : Type} : Left H := { results := [], args := [] }

/-- 'metronomelaw21.TraceExcess': WHATEVER THE INPUT: true; the input reads as it did. -/
def traceExcessSpec : ChangeSpec := { name := "traceExcess", fn := fun _ => fun
  | [d1, d2, d3] => { results := [.lit (.bool true)], args := [d1, d2, d3] }
  | _ => none }
def traceExcessRow : OpenClaim := { program := "ytfpifaccjfgfkaa", sum := "63649855a191dc323b89883c731a0fb95f2f09aa27a2412c223d035676ae28dd", func := "metronome/metronomelaw21.TraceExcess", spec := "traceExcess", unfollowed := true, recurses := true, apart := false }
def TraceExcessSaid : Prop := traceExcessRow.holds Try.pinned (OpenSpec.ofChange traceExcessSpec)

/-- ITS FALSE NEIGHBOUR: 'it returns false'. Refute it at one input. -/
def traceExcessWrong : ChangeSpec := { name := "traceExcess", fn := fun _ => fun
  | [d1, d2, d3] => { results := [.lit (.bool false)], args := [d1, d2, d3] }
  | _ => none }
def TraceExcessWrongFalsely : Prop := traceExcessRow.holds Try.pinned (OpenSpec.ofChange traceExcessWrong)

/-- 'metronomelaw21.TraceAll': WHATEVER THE INPUT: true; the input reads as it did. -/
def traceAllSpec : ChangeSpec := { name := "traceAll", fn := fun _ => fun
  | [d1, d2, d3] => { results := [.lit (.bool true)], args := [d1, d2, d3] }
  | _ => none }
def traceAllRow : OpenClaim := { program := "ytfpifaccjfgfkaa", sum := "63649855a191dc323b89883c731a0fb95f2f09aa27a2412c223d035676ae28dd", func := "metronome/metronomelaw21.TraceAll", spec := "traceAll", unfollowed := true, recurses := true, apart := false }
def TraceAllSaid : Prop := traceAllRow.holds Try.pinned (OpenSpec.ofChange traceAllSpec)

/-- ITS FALSE NEIGHBOUR: 'it returns false'. Refute it at one input. -/
def traceAllWrong : ChangeSpec := { name := "traceAll", fn := fun _ => fun
  | [d1, d2, d3] => { results := [.lit (.bool false)], args := [d1, d2, d3] }
  | _ => none }
def TraceAllWrongFalsely : Prop := traceAllRow.holds Try.pinned (OpenSpec.ofChange traceAllWrong)

/-- 'metronomelaw21.TraceBounds': WHATEVER THE INPUT: true; the input reads as it did. -/
def traceBoundsSpec : ChangeSpec := { name := "traceBounds", fn := fun _ => fun
  | [d1, d2, d3] => { results := [.lit (.bool true)], args := [d1, d2, d3] }
  | _ => none }
def traceBoundsRow : OpenClaim := { program := "ytfpifaccjfgfkaa", sum := "63649855a191dc323b89883c731a0fb95f2f09aa27a2412c223d035676ae28dd", func := "metronome/metronomelaw21.TraceBounds", spec := "traceBounds", unfollowed := true, recurses := true, apart := false }
def TraceBoundsSaid : Prop := traceBoundsRow.holds Try.pinned (OpenSpec.ofChange traceBoundsSpec)

/-- ITS FALSE NEIGHBOUR: 'it returns false'. Refute it at one input. -/
def traceBoundsWrong : ChangeSpec := { name := "traceBounds", fn := fun _ => fun
  | [d1, d2, d3] => { results := [.lit (.bool false)], args := [d1, d2, d3] }
  | _ => none }
def TraceBoundsWrongFalsely : Prop := traceBoundsRow.holds Try.pinned (OpenSpec.ofChange traceBoundsWrong)

/-- 'metronomelaw21.TraceJoins': WHATEVER THE INPUT: true; the input reads as it did. -/
def traceJoinsSpec : ChangeSpec := { name := "traceJoins", fn := fun _ => fun
  | [d1, d2, d3] => { results := [.lit (.bool true)], args := [d1, d2, d3] }
  | _ => none }
def traceJoinsRow : OpenClaim := { program := "ytfpifaccjfgfkaa", sum := "63649855a191dc323b89883c731a0fb95f2f09aa27a2412c223d035676ae28dd", func := "metronome/metronomelaw21.TraceJoins", spec := "traceJoins", unfollowed := true, recurses := true, apart := false }
def TraceJoinsSaid : Prop := traceJoinsRow.holds Try.pinned (OpenSpec.ofChange traceJoinsSpec)

/-- ITS FALSE NEIGHBOUR: 'it returns false'. Refute it at one input. -/
def traceJoinsWrong : ChangeSpec := { name := "traceJoins", fn := fun _ => fun
  | [d1, d2, d3] => { results := [.lit (.bool false)], args := [d1, d2, d3] }
  | _ => none }
def TraceJoinsWrongFalsely : Prop := traceJoinsRow.holds Try.pinned (OpenSpec.ofChange traceJoinsWrong)

/-- 'metronomelaw21.TraceSplits': WHATEVER THE INPUT: true; the input reads as it did. -/
def traceSplitsSpec : ChangeSpec := { name := "traceSplits", fn := fun _ => fun
  | [d1, d2, d3] => { results := [.lit (.bool true)], args := [d1, d2, d3] }
  | _ => none }
def traceSplitsRow : OpenClaim := { program := "ytfpifaccjfgfkaa", sum := "63649855a191dc323b89883c731a0fb95f2f09aa27a2412c223d035676ae28dd", func := "metronome/metronomelaw21.TraceSplits", spec := "traceSplits", unfollowed := true, recurses := true, apart := false }
def TraceSplitsSaid : Prop := traceSplitsRow.holds Try.pinned (OpenSpec.ofChange traceSplitsSpec)

/-- ITS FALSE NEIGHBOUR: 'it returns false'. Refute it at one input. -/
def traceSplitsWrong : ChangeSpec := { name := "traceSplits", fn := fun _ => fun
  | [d1, d2, d3] => { results := [.lit (.bool false)], args := [d1, d2, d3] }
  | _ => none }
def TraceSplitsWrongFalsely : Prop := traceSplitsRow.holds Try.pinned (OpenSpec.ofChange traceSplitsWrong)

/- THE SECOND FORM. 'bulk': how many values and letters a reading holds, each counted each time it is reached (what is shared counts as often as it is met; a slice's spare places count too). A statement '..UptoSaid' is the law's where the arguments, and the package variables that the reading takes, are together of bulk at most 1048576: NARROWER than '..Said'. Prove '..Said' where nothing that the law and all that it calls make is longer than what came in: it says more and counts as full. Else prove '..UptoSaid'. A law counts once. -/
mutual
def uptoBulk {H : Type} : DataW H → Nat
  | .lit (.string bytes) => bytes.length + 1
  | .lit _ => 1
  | .nil => 1
  | .ptr d => uptoBulk d + 1
  | .slice elems spare => uptoBulkAll elems + uptoBulkAll spare + 1
  | .agg parts => uptoBulkAll parts + 1
  | .iface _ d => uptoBulk d + 1
  | .map entries => uptoBulkEntries entries + 1
  | .held _ => 1
def uptoBulkAll {H : Type} : List (DataW H) → Nat
  | [] => 0
  | d :: r => uptoBulk d + uptoBulkAll r
def uptoBulkEntries {H : Type} : List (Lit × DataW H) → Nat
  | [] => 0
  | x :: r => uptoBulkEntry x + uptoBulkEntries r
def uptoBulkEntry {H : Type} : Lit × DataW H → Nat
  | (.string bytes, d) => bytes.length + uptoBulk d + 1
  | (_, d) => uptoBulk d + 1
 end
def uptoSmall : (H : Type) → List (DataW H) → Bool := fun _ ds => decide (uptoBulkAll ds ≤ 1048576)
def OpenSpec.upto (s : _root_.Go.ChangeSpec) : _root_.Go.OpenSpec := { _root_.Go.OpenSpec.ofChange s with cond := some uptoSmall }

/-- 'metronomelaw21.TraceExcess', WHERE WHAT IT READS IS OF BULK AT MOST 1048576: true; the input reads as it did. -/
def traceExcessUptoRow : OpenClaim := { program := "ytfpifaccjfgfkaa", sum := "63649855a191dc323b89883c731a0fb95f2f09aa27a2412c223d035676ae28dd", func := "metronome/metronomelaw21.TraceExcess", spec := "traceExcess", unfollowed := true, recurses := true, apart := false, narrowed := true }
def TraceExcessUptoSaid : Prop := traceExcessUptoRow.holds Try.pinned (OpenSpec.upto traceExcessSpec)

/-- 'metronomelaw21.TraceAll', WHERE WHAT IT READS IS OF BULK AT MOST 1048576: true; the input reads as it did. -/
def traceAllUptoRow : OpenClaim := { program := "ytfpifaccjfgfkaa", sum := "63649855a191dc323b89883c731a0fb95f2f09aa27a2412c223d035676ae28dd", func := "metronome/metronomelaw21.TraceAll", spec := "traceAll", unfollowed := true, recurses := true, apart := false, narrowed := true }
def TraceAllUptoSaid : Prop := traceAllUptoRow.holds Try.pinned (OpenSpec.upto traceAllSpec)

/-- 'metronomelaw21.TraceBounds', WHERE WHAT IT READS IS OF BULK AT MOST 1048576: true; the input reads as it did. -/
def traceBoundsUptoRow : OpenClaim := { program := "ytfpifaccjfgfkaa", sum := "63649855a191dc323b89883c731a0fb95f2f09aa27a2412c223d035676ae28dd", func := "metronome/metronomelaw21.TraceBounds", spec := "traceBounds", unfollowed := true, recurses := true, apart := false, narrowed := true }
def TraceBoundsUptoSaid : Prop := traceBoundsUptoRow.holds Try.pinned (OpenSpec.upto traceBoundsSpec)

/-- 'metronomelaw21.TraceJoins', WHERE WHAT IT READS IS OF BULK AT MOST 1048576: true; the input reads as it did. -/
def traceJoinsUptoRow : OpenClaim := { program := "ytfpifaccjfgfkaa", sum := "63649855a191dc323b89883c731a0fb95f2f09aa27a2412c223d035676ae28dd", func := "metronome/metronomelaw21.TraceJoins", spec := "traceJoins", unfollowed := true, recurses := true, apart := false, narrowed := true }
def TraceJoinsUptoSaid : Prop := traceJoinsUptoRow.holds Try.pinned (OpenSpec.upto traceJoinsSpec)

/-- 'metronomelaw21.TraceSplits', WHERE WHAT IT READS IS OF BULK AT MOST 1048576: true; the input reads as it did. -/
def traceSplitsUptoRow : OpenClaim := { program := "ytfpifaccjfgfkaa", sum := "63649855a191dc323b89883c731a0fb95f2f09aa27a2412c223d035676ae28dd", func := "metronome/metronomelaw21.TraceSplits", spec := "traceSplits", unfollowed := true, recurses := true, apart := false, narrowed := true }
def TraceSplitsUptoSaid : Prop := traceSplitsUptoRow.holds Try.pinned (OpenSpec.upto traceSplitsSpec)

end Rows
end Go.Proofs.Ytfpifaccjfgfkaa
