/- What a rule's box holds behind calls that turn nothing old. Each theorem's premises are its conditions. -/
import Derived.Test.YtoagdaenbanhlaaAdmitTest
namespace Go.Proofs.Ytoagdaenbanhlaa
open Go.RowKit

theorem box_cells {hard : Bool} {c k : Int} {w w' : World} (h : Below (w.alloc (.cells #[.bool hard, .int .i64 c, .int .i64 k] 23)).heap.size (w.alloc (.cells #[.bool hard, .int .i64 c, .int .i64 k] 23)) w') :
    w'.cell? ⟨w.heap.size, 0, none⟩ = some (.bool hard) ∧ w'.cell? ⟨w.heap.size, 1, none⟩ = some (.int .i64 c) ∧ w'.cell? ⟨w.heap.size, 2, none⟩ = some (.int .i64 k) ∧ w.heap.size < w'.heap.size := by
  have c0 := (h.cell (p := ⟨w.heap.size, 0, none⟩) (by simp)).trans (show _ = some (Value.bool hard) by go_simp)
  exact ⟨c0, (h.cell (p := ⟨w.heap.size, 1, none⟩) (by simp)).trans (show _ = some (Value.int .i64 c) by go_simp), (h.cell (p := ⟨w.heap.size, 2, none⟩) (by simp)).trans (show _ = some (Value.int .i64 k) by go_simp), cell_lt c0⟩
theorem box_all {hard : Bool} {c k : Int} {w w' : World} (h : Below (w.alloc (.cells #[.bool hard, .int .i64 c, .int .i64 k] 23)).heap.size (w.alloc (.cells #[.bool hard, .int .i64 c, .int .i64 k] 23)) w') :
    w'.cell? ⟨w.heap.size, 0, none⟩ = some (.bool hard) ∧ w'.cell? ⟨w.heap.size, 1, none⟩ = some (.int .i64 c) ∧ w'.cell? ⟨w.heap.size, 2, none⟩ = some (.int .i64 k) ∧ Below (w.alloc (.cells #[.bool hard, .int .i64 c, .int .i64 k] 23)).heap.size (w.alloc (.cells #[.bool hard, .int .i64 c, .int .i64 k] 23)) w' := by
  obtain ⟨a, b, c, _⟩ := box_cells h
  exact ⟨a, b, c, h⟩
theorem row_len {w : World} {a : Option Addr} {len cap : Nat} {ps : List P3} (h : ParamRow w (.slice a len cap) ps) : len = ps.length := by
  rcases h with ⟨a', cap', e, rfl⟩ | ⟨b, off, cap', e, _⟩
  · cases e; rfl
  · cases e; rfl
end Go.Proofs.Ytoagdaenbanhlaa
