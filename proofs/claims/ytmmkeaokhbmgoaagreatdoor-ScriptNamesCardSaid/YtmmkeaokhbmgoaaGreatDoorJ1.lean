/- edac on the state of one variable. -/
import Derived.Test.YtmmkeaokhbmgoaaGreatDoorI9
namespace Go.Proofs.YtmmkeaokhbmgoaaGreatDoor
open Go.RowKit Go.Shelf

theorem idxI0 (f : Value) (w : World) :
    Calls Tryz.prog 252 #[.slice none 0 0, f] w fun e w' => e = .returned (.int .i64 (-1)) ∧ w = w' := by
  go_enter Tryz.func252, Tryz.ntmps252
  go_wp2_with fail
  refine wp_loop_rounds 1 ?_
  rw [rounds_succ]
  go_wp2_with fail
  go_ret
  exact ⟨rfl, rfl⟩
theorem delI0 (f : Value) (w : World) :
    Calls Tryz.prog 237 #[.slice none 0 0, f] w fun e w' => e = .returned (.slice none 0 0) ∧ w = w' := by
  go_enter Tryz.func237, Tryz.ntmps237
  go_wp2_with (go_at_call 252; refine (idxI0 _ _).mono ?_; rintro e w' ⟨rfl, rfl⟩)
  go_ret
  exact ⟨rfl, rfl⟩
section
variable {w : World} {sb nb tb : Nat} {vc V : Value}
theorem oneNear (h : One w sb nb tb vc V) : Calls Tryz.prog 84 #[.pointer (some ⟨sb, 0, none⟩), .int .i64 0] w fun e w' => e = .returned (.slice none 0 0) ∧ w = w' := by
  have H := Lib.hid h; clear h
  go_enter Tryz.func84, Tryz.ntmps84
  go_wp2_with fail
  refine (oneFuns H.out).mono ?_
  rintro e w' ⟨rfl, rfl⟩
  go_wp2_with fail
  refine wp_loop_rounds 1 ?_
  rw [rounds_succ]
  go_wp2_with fail
  go_ret
  exact ⟨rfl, rfl⟩
/-- Need's cost: of a variable that stands alone, its unary cost. -/
theorem softNeed2 (h : One w sb nb tb vc V) (ub lb pb ib xb yb : Nat) (hu : w.cell? ⟨ub, 0, none⟩ = some (.func (.func 307) #[] #[.pointer (some ⟨xb, 0, none⟩), .pointer (some ⟨yb, 0, none⟩)]))
    (hx : Blk w xb 26 #[.pointer (some ⟨sb, 0, none⟩)]) (hy : Blk w yb 3 #[.int .i64 0]) (hl : Blk w lb 27 #[.slice none 0 0]) :
    Calls Tryz.prog 287 #[.int .i64 0, .pointer (some ⟨ub, 0, none⟩), .pointer (some ⟨lb, 0, none⟩), .pointer (some ⟨pb, 0, none⟩), .pointer (some ⟨ib, 0, none⟩)] w fun e w' => e = .returned (.int .i64 0) ∧ Upd [] w w' := by
  have H := Lib.hid h; clear h
  have HX := Lib.hid hx; clear hx
  have HY := Lib.hid hy; clear hy
  have HL := Lib.hid hl; clear hl
  go_enter Tryz.func287, Tryz.ntmps287
  go_wp2_with fail
  refine (softUnary1 H.out _ _ (HX.out.cell 0) (HY.out.cell 0)).mono ?_
  rintro e w1 ⟨rfl, hu1⟩
  have l0 : w1.cell? ⟨lb, 0, none⟩ = some (.slice none 0 0) := (HL.out.upd hu1 (by simp)).cell 0
  go_wp2_with fail
  refine wp_loop_rounds 1 ?_
  rw [rounds_succ]
  go_wp2_with fail
  go_ret
  exact ⟨rfl, hu1⟩
end
end Go.Proofs.YtmmkeaokhbmgoaaGreatDoor
