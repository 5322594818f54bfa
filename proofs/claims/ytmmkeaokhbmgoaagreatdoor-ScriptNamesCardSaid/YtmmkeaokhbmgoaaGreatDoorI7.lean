/- nc.Once, nc.Enforce on the state of one variable. -/
import Derived.Test.YtmmkeaokhbmgoaaGreatDoorI6
namespace Go.Proofs.YtmmkeaokhbmgoaaGreatDoor
open Go.RowKit Go.Shelf

section
variable {w : World} {sb nb tb : Nat} {vc V : Value}
theorem oneNcOnce (h : One w sb nb tb vc V) : Calls Tryz.prog 159 #[.pointer (some ⟨sb, 0, none⟩)] w fun e w' => e = .returned (.tuple #[.bool false, .int .i64 0]) ∧ Upd [] w w' := by
  have H := Lib.hid h; clear h
  go_enter Tryz.func159, Tryz.ntmps159
  go_wp2_with (go_at_call 88; refine (oneN H.out).mono ?_; rintro e w' ⟨rfl, rfl⟩)
  refine wp_loop_rounds 2 ?_
  rw [rounds_succ]
  go_wp2_with fail
  refine (oneGone H.out).mono ?_
  rintro e w1 ⟨rfl, hu1⟩
  have H1 := Lib.hid (H.out.fresh hu1)
  go_wp2_with fail
  refine (oneNcPrune H1.out).mono ?_
  rintro e w2 ⟨rfl, hu2⟩
  have H2 := Lib.hid (H1.out.fresh hu2)
  go_wp2_with fail
  refine (oneSoftLeast H2.out).mono ?_
  rintro e w3 ⟨rfl, hu3⟩
  go_wp2_with fail
  rw [rounds_succ]
  go_wp2_with fail
  go_ret2
  exact ⟨rfl, (hu1.trans hu2).trans hu3⟩
theorem oneNcEnforce (h : One w sb nb tb vc V) : Calls Tryz.prog 75 #[.pointer (some ⟨sb, 0, none⟩)] w fun e w' => e = .returned (.int .i64 0) ∧ Upd [] w w' := by
  have H := Lib.hid h; clear h
  go_enter Tryz.func75, Tryz.ntmps75
  go_wp2_with fail
  refine wp_loop_rounds 1 ?_
  rw [rounds_succ]
  go_wp2_with fail
  refine (oneNcOnce H.out).mono ?_
  rintro e w1 ⟨rfl, hu1⟩
  go_wp2_with fail
  (try simp only [Exit.inBlock, Exit.then])
  go_ret
  exact ⟨rfl, hu1⟩
end
end Go.Proofs.YtmmkeaokhbmgoaaGreatDoor
