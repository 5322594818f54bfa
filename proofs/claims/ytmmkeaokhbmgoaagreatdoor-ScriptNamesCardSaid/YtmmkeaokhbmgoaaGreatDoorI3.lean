/- The state of one variable: move.value, Prune; nc.prune; soft.Least; nc.Once, Enforce. -/
import Derived.Test.YtmmkeaokhbmgoaaGreatDoorI2
namespace Go.Proofs.YtmmkeaokhbmgoaaGreatDoor
open Go.RowKit Go.Shelf
attribute [local go_sem] Oper.semAt_some

section
variable {w : World} {sb nb tb : Nat} {vc V : Value}
theorem oneValue (h : One w sb nb tb vc V) : Calls Tryz.prog 72 #[.pointer (some ⟨sb, 0, none⟩), .int .i64 0, .int .i64 0] w fun e w' => e = .returned (.int .i64 0) ∧ Upd [] w w' := by
  have H := Lib.hid h; clear h
  go_enter Tryz.func72, Tryz.ntmps72
  go_wp2_with fail
  refine (oneGone H.out).mono ?_
  rintro e w1 ⟨rfl, hu1⟩
  have H1 := Lib.hid (H.out.fresh hu1)
  go_wp2_with fail
  refine (oneDom H1.out).mono ?_
  rintro e w2 ⟨rfl, hu2⟩
  go_wp2_with fail
  refine (has1 w2).mono ?_
  rintro e w3 ⟨rfl, hu3⟩
  go_wp2_with fail
  go_ret
  exact ⟨rfl, (hu1.trans hu2).trans hu3⟩
theorem costIn01 (w : World) : Calls Tryz.prog 137 #[.int .i64 0, .int .i64 1] w fun e w' => e = .returned (.bool true) ∧ w = w' := by
  go_enter Tryz.func137, Tryz.ntmps137
  go_wp2_with (go_at_call 193; refine (costRight 1 w (by decide) (by decide)).mono ?_; rintro e w' ⟨rfl, rfl⟩)
  go_ret
  exact ⟨rfl, rfl⟩
theorem costAdd00 (w : World) : Calls Tryz.prog 141 #[.int .i64 0, .int .i64 0, .int .i64 1] w fun e w' => e = .returned (.tuple #[.int .i64 0, .int .i64 0]) ∧ w = w' := by
  go_enter Tryz.func141, Tryz.ntmps141
  go_wp2_with (go_at_call 137; refine (costIn01 w).mono ?_; rintro e w' ⟨rfl, rfl⟩)
  go_ret2
  exact ⟨rfl, rfl⟩
theorem oneMore (h : One w sb nb tb vc V) : Calls Tryz.prog 63 #[.pointer (some ⟨sb, 0, none⟩), .int .i64 0, .int .i64 0] w fun e w' => e = .returned (.int .i64 0) ∧ w = w' := by
  have H := Lib.hid h; clear h
  go_enter Tryz.func63, Tryz.ntmps63
  go_wp2_with (first | (go_at_call 73; refine (oneK H.out).mono ?_; rintro e w' ⟨rfl, rfl⟩) | (go_at_call 141; refine (costAdd00 w).mono ?_; rintro e w' ⟨rfl, rfl⟩))
  go_ret
  exact ⟨rfl, rfl⟩
theorem onePrune (h : One w sb nb tb vc V) : Calls Tryz.prog 21 #[.pointer (some ⟨sb, 0, none⟩), .int .i64 0, .int .i64 0] w fun e w' => e = .returned (.int .i64 7) ∧ Upd [] w w' := by
  have H := Lib.hid h; clear h
  go_enter Tryz.func21, Tryz.ntmps21
  go_wp2_with fail
  refine (oneValue H.out).mono ?_
  rintro e w1 ⟨rfl, hu1⟩
  have H1 := Lib.hid (H.out.fresh hu1)
  go_wp2_with fail
  refine (oneUnary H1.out).mono ?_
  rintro e w2 ⟨rfl, hu2⟩
  have H2 := Lib.hid (H1.out.fresh hu2)
  go_wp2_with (first | (go_at_call 70; refine (oneZero H2.out).mono ?_; rintro e w' ⟨rfl, rfl⟩) | (go_at_call 63; refine (oneMore H2.out).mono ?_; rintro e w' ⟨rfl, rfl⟩) | (go_at_call 73; refine (oneK H2.out).mono ?_; rintro e w' ⟨rfl, rfl⟩))
  (try simp only [Exit.inBlock, Exit.then])
  go_ret
  exact ⟨rfl, hu1.trans hu2⟩
end
end Go.Proofs.YtmmkeaokhbmgoaaGreatDoor
