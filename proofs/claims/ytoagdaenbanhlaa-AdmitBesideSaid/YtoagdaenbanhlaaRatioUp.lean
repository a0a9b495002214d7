/- What ratio's Up answers at any numbers. No condition but that they are numbers of 64 bits. -/
import Derived.Test.YtoagdaenbanhlaaDivRes
namespace Go.Proofs.Ytoagdaenbanhlaa
open Go.RowKit

theorem up_any (q t : Int) (hq : q ≤ 9223372036854775807) (ht : t ≤ 9223372036854775807) (w : World) :
    Calls Try.prog 41 #[.int .i64 q, .int .i64 t] w (Gives (.tuple #[.int .i64 (divNum q 1048576 t true), .int .i64 (divErr q 1048576 t true)]) w) := by
  have D := Lib.hid (div_any q 1048576 t true hq (by omega) ht)
  generalize divNum q 1048576 t true = n at *
  generalize divErr q 1048576 t true = x at *
  go_enter Try.func41, Try.ntmps41
  go_wp2_with (go_at_call 43; refine (D.out _).mono ?_; rintro e w' ⟨rfl, hb⟩)
  go_ret2
  exact ⟨rfl, hb⟩
end Go.Proofs.Ytoagdaenbanhlaa
