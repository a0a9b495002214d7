/-
  No cell of these rows narrows 'for every input' (looked for: loops, veiled, ifaces, maps, wideKeys, modest, calm, conditions, laid).
  DERIVED. THE GIVEN ROWS OF THIS SEAT. 6 by the template 'for every input the law returns true; each argument reads behind the call as it read before'; 0 by the template 'total and deterministic' (their statements: YtoagdaenbanhlaaTotals.lean).
  GIVEN WITH THE SEED: the statements are not yours to turn. If you find one false, say at which input.
  Laid BY PROGRAM, IN A SANDBOX (cutbox-rows.mjs): the forced cells as the released guide's own fill.sh prints them over the translation 33b3fbe3ac77c634… (all of the seat's roots in one cut). By AI agents, Wed Nov 11 2026. No macro, syntax, notation, axiom, sorry.
-/
import Derived.Test.YtoagdaenbanhlaaChecked
import GoSem.Claim
import GoSem.ClaimJoined
import GoSem.ClaimMapViews
import Derived.JoinedTies
import Derived.KernelRfl
namespace Go.Proofs.Ytoagdaenbanhlaa
/- THE CELL 'sum', in the pinned program and in every row, IS THE sha256 OF THE DUMP (.gsa) THAT YtoagdaenbanhlaaProg.lean LOADS. Nothing in Lean hashes anything: it is a label: what it is worth is what the hold of that sum in a sandbox is worth. -/
noncomputable def Try.pinned : Pinned := { name := "ytoagdaenbanhlaa", sum := "33b3fbe3ac77c634c46be4f15d0eeb5868f8b5d7eb66757f4da6ebf7b57653aa", checked := Try.checked }
namespace Rows
def none {H : Type} : Left H := { results := [], args := [] }

/-- 'metronomelaw09.AdmitTests': WHATEVER THE INPUT: true; the input reads as it did. -/
def admitTestsSpec : ChangeSpec := { name := "admitTests", fn := fun _ => fun
  | [d1, d2, d3] => { results := [.lit (.bool true)], args := [d1, d2, d3] }
  | _ => none }
def admitTestsRow : OpenClaim := { program := "ytoagdaenbanhlaa", sum := "33b3fbe3ac77c634c46be4f15d0eeb5868f8b5d7eb66757f4da6ebf7b57653aa", func := "metronome/metronomelaw09.AdmitTests", spec := "admitTests", unfollowed := true, recurses := true, named := ["math/bits.divideError", "math/bits.overflowError"], apart := false }
def AdmitTestsSaid : Prop := admitTestsRow.holds Try.pinned (OpenSpec.ofChange admitTestsSpec)

/-- ITS FALSE NEIGHBOUR: 'it returns false'. Refute it at one input. -/
def admitTestsWrong : ChangeSpec := { name := "admitTests", fn := fun _ => fun
  | [d1, d2, d3] => { results := [.lit (.bool false)], args := [d1, d2, d3] }
  | _ => none }
def AdmitTestsWrongFalsely : Prop := admitTestsRow.holds Try.pinned (OpenSpec.ofChange admitTestsWrong)

/-- 'metronomelaw09.AdmitHard': WHATEVER THE INPUT: true; the input reads as it did. -/
def admitHardSpec : ChangeSpec := { name := "admitHard", fn := fun _ => fun
  | [d1, d2, d3] => { results := [.lit (.bool true)], args := [d1, d2, d3] }
  | _ => none }
def admitHardRow : OpenClaim := { program := "ytoagdaenbanhlaa", sum := "33b3fbe3ac77c634c46be4f15d0eeb5868f8b5d7eb66757f4da6ebf7b57653aa", func := "metronome/metronomelaw09.AdmitHard", spec := "admitHard", unfollowed := true, recurses := true, named := ["math/bits.divideError", "math/bits.overflowError"], apart := false }
def AdmitHardSaid : Prop := admitHardRow.holds Try.pinned (OpenSpec.ofChange admitHardSpec)

/-- ITS FALSE NEIGHBOUR: 'it returns false'. Refute it at one input. -/
def admitHardWrong : ChangeSpec := { name := "admitHard", fn := fun _ => fun
  | [d1, d2, d3] => { results := [.lit (.bool false)], args := [d1, d2, d3] }
  | _ => none }
def AdmitHardWrongFalsely : Prop := admitHardRow.holds Try.pinned (OpenSpec.ofChange admitHardWrong)

/-- 'metronomelaw09.AdmitChanges': WHATEVER THE INPUT: true; the input reads as it did. -/
def admitChangesSpec : ChangeSpec := { name := "admitChanges", fn := fun _ => fun
  | [d1, d2, d3] => { results := [.lit (.bool true)], args := [d1, d2, d3] }
  | _ => none }
def admitChangesRow : OpenClaim := { program := "ytoagdaenbanhlaa", sum := "33b3fbe3ac77c634c46be4f15d0eeb5868f8b5d7eb66757f4da6ebf7b57653aa", func := "metronome/metronomelaw09.AdmitChanges", spec := "admitChanges", unfollowed := true, recurses := true, named := ["math/bits.divideError", "math/bits.overflowError"], apart := false }
def AdmitChangesSaid : Prop := admitChangesRow.holds Try.pinned (OpenSpec.ofChange admitChangesSpec)

/-- ITS FALSE NEIGHBOUR: 'it returns false'. Refute it at one input. -/
def admitChangesWrong : ChangeSpec := { name := "admitChanges", fn := fun _ => fun
  | [d1, d2, d3] => { results := [.lit (.bool false)], args := [d1, d2, d3] }
  | _ => none }
def AdmitChangesWrongFalsely : Prop := admitChangesRow.holds Try.pinned (OpenSpec.ofChange admitChangesWrong)

/-- 'metronomelaw09.AdmitLess': WHATEVER THE INPUT: true; the input reads as it did. -/
def admitLessSpec : ChangeSpec := { name := "admitLess", fn := fun _ => fun
  | [d1, d2, d3] => { results := [.lit (.bool true)], args := [d1, d2, d3] }
  | _ => none }
def admitLessRow : OpenClaim := { program := "ytoagdaenbanhlaa", sum := "33b3fbe3ac77c634c46be4f15d0eeb5868f8b5d7eb66757f4da6ebf7b57653aa", func := "metronome/metronomelaw09.AdmitLess", spec := "admitLess", unfollowed := true, recurses := true, named := ["math/bits.divideError", "math/bits.overflowError"], apart := false }
def AdmitLessSaid : Prop := admitLessRow.holds Try.pinned (OpenSpec.ofChange admitLessSpec)

/-- ITS FALSE NEIGHBOUR: 'it returns false'. Refute it at one input. -/
def admitLessWrong : ChangeSpec := { name := "admitLess", fn := fun _ => fun
  | [d1, d2, d3] => { results := [.lit (.bool false)], args := [d1, d2, d3] }
  | _ => none }
def AdmitLessWrongFalsely : Prop := admitLessRow.holds Try.pinned (OpenSpec.ofChange admitLessWrong)

/-- 'metronomelaw09.AdmitRooms': WHATEVER THE INPUT: true; the input reads as it did. -/
def admitRoomsSpec : ChangeSpec := { name := "admitRooms", fn := fun _ => fun
  | [d1, d2, d3] => { results := [.lit (.bool true)], args := [d1, d2, d3] }
  | _ => none }
def admitRoomsRow : OpenClaim := { program := "ytoagdaenbanhlaa", sum := "33b3fbe3ac77c634c46be4f15d0eeb5868f8b5d7eb66757f4da6ebf7b57653aa", func := "metronome/metronomelaw09.AdmitRooms", spec := "admitRooms", unfollowed := true, recurses := true, named := ["math/bits.divideError", "math/bits.overflowError"], apart := false }
def AdmitRoomsSaid : Prop := admitRoomsRow.holds Try.pinned (OpenSpec.ofChange admitRoomsSpec)

/-- ITS FALSE NEIGHBOUR: 'it returns false'. Refute it at one input. -/
def admitRoomsWrong : ChangeSpec := { name := "admitRooms", fn := fun _ => fun
  | [d1, d2, d3] => { results := [.lit (.bool false)], args := [d1, d2, d3] }
  | _ => none }
def AdmitRoomsWrongFalsely : Prop := admitRoomsRow.holds Try.pinned (OpenSpec.ofChange admitRoomsWrong)

/-- 'metronomelaw09.AdmitBeside': WHATEVER THE INPUT: true; the input reads as it did. -/
def admitBesideSpec : ChangeSpec := { name := "admitBeside", fn := fun _ => fun
  | [d1, d2, d3] => { results := [.lit (.bool true)], args := [d1, d2, d3] }
  | _ => none }
def admitBesideRow : OpenClaim := { program := "ytoagdaenbanhlaa", sum := "33b3fbe3ac77c634c46be4f15d0eeb5868f8b5d7eb66757f4da6ebf7b57653aa", func := "metronome/metronomelaw09.AdmitBeside", spec := "admitBeside", unfollowed := true, recurses := true, named := ["math/bits.divideError", "math/bits.overflowError"], apart := false }
def AdmitBesideSaid : Prop := admitBesideRow.holds Try.pinned (OpenSpec.ofChange admitBesideSpec)

/-- ITS FALSE NEIGHBOUR: 'it returns false'. Refute it at one input. -/
def admitBesideWrong : ChangeSpec := { name := "admitBeside", fn := fun _ => fun
  | [d1, d2, d3] => { results := [.lit (.bool false)], args := [d1, d2, d3] }
  | _ => none }
def AdmitBesideWrongFalsely : Prop := admitBesideRow.holds Try.pinned (OpenSpec.ofChange admitBesideWrong)

/- THE SECOND FORM. 'bulk': how many values and letters a reading holds, each counted each time it is reached (what is shared counts as often as it is met; a slice's spare places count too). A statement '..UptoSaid' is the law's where the arguments, and the package variables that the reading takes, are together of bulk at most 1048576: NARROWER than '..Said'. Prove '..Said' where nothing that the law and all that it calls make is longer than what came in: it says more and counts as full. Else prove '..UptoSaid'. A law counts once. -/
mutual
def uptoBulk {H : Type} : DataW H → Nat
  | .lit (.string bytes) => bytes.length + 1
  | .lit _ => 1
  | .nil => 1
  | .ptr d => uptoBulk d + 1
  | .slice elems spare => uptoBulkAll elems + uptoBulkAll spare + 1
  | .agg parts => uptoBulkAll parts + 1
  | .iface _ d => uptoBulk d + 1
  | .map entries => uptoBulkEntries entries + 1
  | .held _ => 1
def uptoBulkAll {H : Type} : List (DataW H) → Nat
  | [] => 0
  | d :: r => uptoBulk d + uptoBulkAll r
def uptoBulkEntries {H : Type} : List (Lit × DataW H) → Nat
  | [] => 0
  | x :: r => uptoBulkEntry x + uptoBulkEntries r
def uptoBulkEntry {H : Type} : Lit × DataW H → Nat
  | (.string bytes, d) => bytes.length + uptoBulk d + 1
  | (_, d) => uptoBulk d + 1
 end
def uptoSmall : (H : Type) → List (DataW H) → Bool := fun _ ds => decide (uptoBulkAll ds ≤ 1048576)
def OpenSpec.upto (s : _root_.Go.ChangeSpec) : _root_.Go.OpenSpec := { _root_.Go.OpenSpec.ofChange s with cond := some uptoSmall }

/-- 'metronomelaw09.AdmitTests', WHERE WHAT IT READS IS OF BULK AT MOST 1048576: true; the input reads as it did. -/
def admitTestsUptoRow : OpenClaim := { program := "ytoagdaenbanhlaa", sum := "33b3fbe3ac77c634c46be4f15d0eeb5868f8b5d7eb66757f4da6ebf7b57653aa", func := "metronome/metronomelaw09.AdmitTests", spec := "admitTests", unfollowed := true, recurses := true, named := ["math/bits.divideError", "math/bits.overflowError"], apart := false, narrowed := true }
def AdmitTestsUptoSaid : Prop := admitTestsUptoRow.holds Try.pinned (OpenSpec.upto admitTestsSpec)

/-- 'metronomelaw09.AdmitHard', WHERE WHAT IT READS IS OF BULK AT MOST 1048576: true; the input reads as it did. -/
def admitHardUptoRow : OpenClaim := { program := "ytoagdaenbanhlaa", sum := "33b3fbe3ac77c634c46be4f15d0eeb5868f8b5d7eb66757f4da6ebf7b57653aa", func := "metronome/metronomelaw09.AdmitHard", spec := "admitHard", unfollowed := true, recurses := true, named := ["math/bits.divideError", "math/bits.overflowError"], apart := false, narrowed := true }
def AdmitHardUptoSaid : Prop := admitHardUptoRow.holds Try.pinned (OpenSpec.upto admitHardSpec)

/-- 'metronomelaw09.AdmitChanges', WHERE WHAT IT READS IS OF BULK AT MOST 1048576: true; the input reads as it did. -/
def admitChangesUptoRow : OpenClaim := { program := "ytoagdaenbanhlaa", sum := "33b3fbe3ac77c634c46be4f15d0eeb5868f8b5d7eb66757f4da6ebf7b57653aa", func := "metronome/metronomelaw09.AdmitChanges", spec := "admitChanges", unfollowed := true, recurses := true, named := ["math/bits.divideError", "math/bits.overflowError"], apart := false, narrowed := true }
def AdmitChangesUptoSaid : Prop := admitChangesUptoRow.holds Try.pinned (OpenSpec.upto admitChangesSpec)

/-- 'metronomelaw09.AdmitLess', WHERE WHAT IT READS IS OF BULK AT MOST 1048576: true; the input reads as it did. -/
def admitLessUptoRow : OpenClaim := { program := "ytoagdaenbanhlaa", sum := "33b3fbe3ac77c634c46be4f15d0eeb5868f8b5d7eb66757f4da6ebf7b57653aa", func := "metronome/metronomelaw09.AdmitLess", spec := "admitLess", unfollowed := true, recurses := true, named := ["math/bits.divideError", "math/bits.overflowError"], apart := false, narrowed := true }
def AdmitLessUptoSaid : Prop := admitLessUptoRow.holds Try.pinned (OpenSpec.upto admitLessSpec)

/-- 'metronomelaw09.AdmitRooms', WHERE WHAT IT READS IS OF BULK AT MOST 1048576: true; the input reads as it did. -/
def admitRoomsUptoRow : OpenClaim := { program := "ytoagdaenbanhlaa", sum := "33b3fbe3ac77c634c46be4f15d0eeb5868f8b5d7eb66757f4da6ebf7b57653aa", func := "metronome/metronomelaw09.AdmitRooms", spec := "admitRooms", unfollowed := true, recurses := true, named := ["math/bits.divideError", "math/bits.overflowError"], apart := false, narrowed := true }
def AdmitRoomsUptoSaid : Prop := admitRoomsUptoRow.holds Try.pinned (OpenSpec.upto admitRoomsSpec)

/-- 'metronomelaw09.AdmitBeside', WHERE WHAT IT READS IS OF BULK AT MOST 1048576: true; the input reads as it did. -/
def admitBesideUptoRow : OpenClaim := { program := "ytoagdaenbanhlaa", sum := "33b3fbe3ac77c634c46be4f15d0eeb5868f8b5d7eb66757f4da6ebf7b57653aa", func := "metronome/metronomelaw09.AdmitBeside", spec := "admitBeside", unfollowed := true, recurses := true, named := ["math/bits.divideError", "math/bits.overflowError"], apart := false, narrowed := true }
def AdmitBesideUptoSaid : Prop := admitBesideUptoRow.holds Try.pinned (OpenSpec.upto admitBesideSpec)

end Rows
end Go.Proofs.Ytoagdaenbanhlaa
