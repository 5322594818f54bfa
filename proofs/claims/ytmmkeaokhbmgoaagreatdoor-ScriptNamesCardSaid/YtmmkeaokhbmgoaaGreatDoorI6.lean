/- soft.Least, nc.Once, nc.Enforce on the state of one variable. -/
import Derived.Test.YtmmkeaokhbmgoaaGreatDoorI5
namespace Go.Proofs.YtmmkeaokhbmgoaaGreatDoor
open Go.RowKit Go.Shelf

section
variable {w : World} {sb nb tb : Nat} {vc V : Value}
theorem softUnaryMake (w : World) (sb : Nat) (i : Int) : Calls Tryz.prog 278 #[.pointer (some ⟨sb, 0, none⟩), .int .i64 i] w fun e w' =>
    e = .returned (.func (.func 307) #[] #[.pointer (some ⟨w.heap.size, 0, none⟩), .pointer (some ⟨w.heap.size + 1, 0, none⟩)]) ∧ w' = (w.alloc (.cells #[.pointer (some ⟨sb, 0, none⟩)] 26)).alloc (.cells #[.int .i64 i] 3) := by
  go_enter Tryz.func278, Tryz.ntmps278
  go_wp2
  go_ret
  exact ⟨rfl, rfl⟩
theorem softUnary1 (h : One w sb nb tb vc V) (pb ib : Nat) (hp : w.cell? ⟨pb, 0, none⟩ = some (.pointer (some ⟨sb, 0, none⟩))) (hi : w.cell? ⟨ib, 0, none⟩ = some (.int .i64 0)) :
    Calls Tryz.prog 307 #[.int .i64 0, .pointer (some ⟨pb, 0, none⟩), .pointer (some ⟨ib, 0, none⟩)] w fun e w' => e = .returned (.int .i64 0) ∧ Upd [] w w' := by
  have H := Lib.hid h; clear h
  go_enter Tryz.func307, Tryz.ntmps307
  go_wp2_with (go_at_call 65; refine (oneUnary H.out).mono ?_; rintro e w1 ⟨rfl, hu1⟩)
  go_ret
  exact ⟨rfl, hu1⟩
theorem oneVariable (h : One w sb nb tb vc V) : Calls Tryz.prog 276 #[.pointer (some ⟨sb, 0, none⟩), .int .i64 0] w fun e w' => e = .returned (.int .i64 0) ∧ Upd [] w w' := by
  have H := Lib.hid h; clear h
  go_enter Tryz.func276, Tryz.ntmps276
  go_wp2_with fail
  refine (oneGone H.out).mono ?_
  rintro e w1 ⟨rfl, hu1⟩
  have H1 := Lib.hid (H.out.fresh hu1)
  go_wp2_with fail
  refine (oneDom H1.out).mono ?_
  rintro e w2 ⟨rfl, hu2⟩
  go_wp2_with fail
  refine (domSize1 w2).mono ?_
  rintro e w3 ⟨rfl, hu3⟩
  go_wp2_with fail
  go_ret
  exact ⟨rfl, (hu1.trans hu2).trans hu3⟩
theorem oneSoftLeast (h : One w sb nb tb vc V) : Calls Tryz.prog 230 #[.pointer (some ⟨sb, 0, none⟩), .int .i64 0] w fun e w' => e = .returned (.tuple #[.int .i64 0, .int .i64 0, .int .i64 0]) ∧ Upd [] w w' := by
  have H := Lib.hid h; clear h
  go_enter Tryz.func230, Tryz.ntmps230
  go_wp2_with fail
  refine (oneVariable H.out).mono ?_
  rintro e w1 ⟨rfl, hu1⟩
  have H1 := Lib.hid (H.out.fresh hu1)
  go_wp2_with fail
  refine (softUnaryMake w1 sb 0).mono ?_
  rintro e w2 ⟨rfl, hw2⟩
  have hu2 : Upd [] w1 w2 := by rw [hw2]; exact ((Upd.refl _ _).alloc _).alloc _
  have bP : Blk w2 w1.heap.size 26 #[.pointer (some ⟨sb, 0, none⟩)] := by rw [hw2]; exact (Blk.new _ _ _).alloc _
  have bI : Blk w2 (w1.heap.size + 1) 3 #[.int .i64 0] := by
    rw [hw2]
    have := Blk.new (w1.alloc (.cells #[.pointer (some ⟨sb, 0, none⟩)] 26)) 3 #[.int .i64 0]
    rwa [World.size_alloc] at this
  clear hw2
  have H2 := Lib.hid (H1.out.fresh hu2)
  go_wp2_with fail
  refine (oneLeast H2.out _ _ (fun W hU => softUnary1 (H2.out.fresh hU) _ _ ((bP.upd hU (by simp)).cell 0) ((bI.upd hU (by simp)).cell 0))).mono ?_
  rintro e w3 ⟨rfl, hu3⟩
  go_wp2_with fail
  go_ret3
  exact ⟨rfl, (hu1.trans hu2).trans hu3⟩
end
end Go.Proofs.YtmmkeaokhbmgoaaGreatDoor
