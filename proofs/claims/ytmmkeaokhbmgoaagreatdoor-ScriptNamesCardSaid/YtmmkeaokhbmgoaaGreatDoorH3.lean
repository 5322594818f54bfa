/- awake. -/
import Derived.Test.YtmmkeaokhbmgoaaGreatDoorH2
namespace Go.Proofs.YtmmkeaokhbmgoaaGreatDoor
open Go.RowKit

theorem awake0 (w : World) : Calls Tryz.prog 4 #[] w fun e w' => e = .returned (.bool true) ∧ Upd [] w w' := by
  go_enter Tryz.func4, Tryz.ntmps4
  go_wp2_with fail
  refine (readOp w.heap.size _ (Blk.new w _ _)).mono ?_
  rintro e w1 ⟨v, rfl, hown, hB⟩
  obtain ⟨g, c, rfl, hg, hl, hc⟩ := own_some hown (by decide)
  have k0 := own_cell' hown (j := 0) rfl
  have k1 := own_cell' hown (j := 1) rfl
  go_wp2_with fail
  go_ret
  exact ⟨rfl, Upd.then_nil ((Upd.refl [] w).alloc _) (Upd.of_below hB (Nat.le_refl _))⟩
end Go.Proofs.YtmmkeaokhbmgoaaGreatDoor
