/- What ratio's Up, Down and Part answer at any numbers. No condition but that they are numbers of 64 bits. -/
import Derived.Test.YtbjahjepgjaomaaDivRes
namespace Go.Proofs.Ytbjahjepgjaomaa
open Go.RowKit

theorem up_any (q t : Int) (hq : q ≤ 9223372036854775807) (ht : t ≤ 9223372036854775807) (w : World) :
    Calls Try.prog 10 #[.int .i64 q, .int .i64 t] w (Gives (.tuple #[.int .i64 (divNum q 1048576 t true), .int .i64 (divErr q 1048576 t true)]) w) := by
  have D := Lib.hid (div_any q 1048576 t true hq (by omega) ht)
  generalize divNum q 1048576 t true = n at *
  generalize divErr q 1048576 t true = x at *
  go_enter Try.func10, Try.ntmps10
  go_wp2_with (go_at_call 22; refine (D.out _).mono ?_; rintro e w' ⟨rfl, hb⟩)
  go_ret2
  exact ⟨rfl, hb⟩
theorem down_any (q t : Int) (hq : q ≤ 9223372036854775807) (ht : t ≤ 9223372036854775807) (w : World) :
    Calls Try.prog 11 #[.int .i64 q, .int .i64 t] w (Gives (.tuple #[.int .i64 (divNum q 1048576 t false), .int .i64 (divErr q 1048576 t false)]) w) := by
  have D := Lib.hid (div_any q 1048576 t false hq (by omega) ht)
  generalize divNum q 1048576 t false = n at *
  generalize divErr q 1048576 t false = x at *
  go_enter Try.func11, Try.ntmps11
  go_wp2_with (go_at_call 22; refine (D.out _).mono ?_; rintro e w' ⟨rfl, hb⟩)
  go_ret2
  exact ⟨rfl, hb⟩
theorem part_any (r t : Int) (up : Bool) (hr : r ≤ 9223372036854775807) (ht : t ≤ 9223372036854775807) (w : World) :
    Calls Try.prog 12 #[.int .i64 r, .int .i64 t, .bool up] w (Gives (.tuple #[.int .i64 (divNum r t 1048576 up), .int .i64 (divErr r t 1048576 up)]) w) := by
  have D := Lib.hid (div_any r t 1048576 up hr ht (by omega))
  generalize divNum r t 1048576 up = n at *
  generalize divErr r t 1048576 up = x at *
  go_enter Try.func12, Try.ntmps12
  go_wp2_with (go_at_call 22; refine (D.out _).mono ?_; rintro e w' ⟨rfl, hb⟩)
  go_ret2
  exact ⟨rfl, hb⟩
end Go.Proofs.Ytbjahjepgjaomaa
