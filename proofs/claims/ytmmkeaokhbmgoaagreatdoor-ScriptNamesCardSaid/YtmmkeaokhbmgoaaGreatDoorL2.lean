/- Closed facts of the row of ScriptNames. -/
import Derived.Test.YtmmkeaokhbmgoaaGreatDoorCards
import Derived.ProofKit
import Derived.Deep.DeepHandedRow
namespace Go.Proofs.YtmmkeaokhbmgoaaGreatDoor.ScriptNames
open Go.ChangeShapes Go.WideShapes Go.ChangeAt Go.RowKit
theorem named : Tryz.pinned.checked.prog.funcNamed Rows.scriptNamesRow.func = some 3 := by kernel_rfl
set_option maxRecDepth 100000 in
set_option maxHeartbeats 40000000 in
theorem facts : joinedFacts Tryz.pinned.checked.prog 3 Tryz.f3 (OpenSpec.ofChange Rows.scriptNamesSpec).bare Rows.scriptNamesRow = true := by
  unfold joinedFacts
  simp only [Bool.and_eq_true]
  repeat' apply And.intro
  all_goals decide +kernel
theorem inst : Tryz.f3.isInstance Tryz.pinned.checked.prog Rows.scriptNamesRow.origin Rows.scriptNamesRow.targs := of_decide_eq_true (by kernel_rfl)
theorem wrap : Tryz.f3.isWrapper Tryz.pinned.checked.prog Rows.scriptNamesRow.wrapper Rows.scriptNamesRow.mainSum := by unfold Func.isWrapper; first | (rw [if_pos (by decide +kernel)]; kernel_rfl) | (rw [if_neg (by decide +kernel)]; exact ⟨rfl, rfl⟩)
end Go.Proofs.YtmmkeaokhbmgoaaGreatDoor.ScriptNames
