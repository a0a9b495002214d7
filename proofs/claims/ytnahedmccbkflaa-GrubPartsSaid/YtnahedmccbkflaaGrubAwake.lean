/- The chapter's example answers true: awake of metronomelaw08. No condition. -/
import Derived.Test.YtnahedmccbkflaaGrubWalks
import Derived.WalkLawsBesides
import Derived.WalkSpells
import Derived.Outline
namespace Go.Proofs.Ytnahedmccbkflaa
open Go.RowKit


set_option maxHeartbeats 1000000 in
theorem awake_yes (w : World) : Calls Try.prog 13 #[] w (Yes w) := by
  go_enter Try.func13, Try.ntmps13
  go_wp2_with (first | (go_at_call 9; refine (spare_ok _ _ _ (by unfold LoadMay; omega) _).mono ?_; rw [show spareOf 524288 1048576 1 = 524288 by decide]; rintro e w' ⟨rfl, rfl⟩; unfold loadBox) | (go_at_call 10; refine (rate_ok _ _ _ _ (by omega) (by omega) (by unfold LoadMay; omega) _).mono ?_; rw [show rateOf 262144 524288 1048576 1 = 524288 by decide]; rintro e w' ⟨rfl, rfl⟩; unfold loadBox) | (go_at_call 15; refine (charge_ok _ _ _ (by omega) (by omega) (by omega) (by omega) (by omega) (by omega) _).mono ?_; rw [show ((3 : Int) * 524288 + 0) / 1048576 = 1 by decide, show ((3 : Int) * 524288 + 0) % 1048576 = 524288 by decide]; rintro e w' ⟨rfl, rfl⟩; unfold meterBox))
  go_ret
  refine ⟨rfl, ?_⟩
  repeat (with_reducible refine bel_alloc ?_)
  with_reducible exact Below.refl _ _

end Go.Proofs.Ytnahedmccbkflaa
