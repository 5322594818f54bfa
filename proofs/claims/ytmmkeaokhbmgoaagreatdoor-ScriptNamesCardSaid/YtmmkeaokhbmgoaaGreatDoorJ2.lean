/- soft.Need, edac, script.enforce, Do{Enforce} on the state of one variable. -/
import Derived.Test.YtmmkeaokhbmgoaaGreatDoorJ1
import Derived.Deep.Cut
namespace Go.Proofs.YtmmkeaokhbmgoaaGreatDoor
open Go.RowKit Go.Shelf
theorem run_store_func' (P : Program) (w : World) (a : Addr) (m : Mode) (f : Fn) (b l : Array Value) : (store a (.func f b l) m).run P w = stored P w a (.func f b l) m := run_store P w a _ m rfl
attribute [local go_sem] run_store_func'

section
variable {w : World} {sb nb tb : Nat} {vc V : Value}
set_option maxRecDepth 10000 in
theorem oneNeed (h : One w sb nb tb vc V) : Calls Tryz.prog 235 #[.pointer (some ⟨sb, 0, none⟩), .int .i64 0] w fun e w' => e = .returned (.tuple #[.int .i64 0, .int .i64 0, .int .i64 0]) ∧ Upd [] w w' := by
  have H := Lib.hid h; clear h
  go_enter Tryz.func235, Tryz.ntmps235
  go_wp2_with fail
  obtain ⟨W0, hW0⟩ : ∃ W0, W0 = ((w.alloc (.cells #[.pointer (some ⟨sb, 0, none⟩)] 26)).alloc (.cells #[.int .i64 0] 3)) := ⟨_, rfl⟩
  have hu0 : Upd [] w W0 := by rw [hW0]; exact ((Upd.refl _ _).alloc _).alloc _
  obtain ⟨pb, hpb⟩ : ∃ pb, pb = w.heap.size := ⟨_, rfl⟩
  obtain ⟨ib, hib⟩ : ∃ ib, ib = w.heap.size + 1 := ⟨_, rfl⟩
  have bP : Blk W0 pb 26 #[.pointer (some ⟨sb, 0, none⟩)] := by rw [hW0, hpb]; exact (Blk.new _ _ _).alloc _
  have bI : Blk W0 ib 3 #[.int .i64 0] := by
    rw [hW0, hib]
    have := Blk.new (w.alloc (.cells #[.pointer (some ⟨sb, 0, none⟩)] 26)) 3 #[.int .i64 0]
    rwa [World.size_alloc] at this
  rw [← hW0, ← hib, ← hpb]
  clear hW0 hib hpb
  have H0 := Lib.hid (H.out.fresh hu0)
  refine (oneVariable H0.out).mono ?_
  rintro e w1 ⟨rfl, hu1⟩
  have H1 := Lib.hid (H0.out.fresh hu1)
  have BP := Lib.hid (bP.upd hu1 (by simp))
  have BI := Lib.hid (bI.upd hu1 (by simp))
  have p0 := BP.out.cell 0
  have i0 := BI.out.cell 0
  simp at p0 i0
  clear bP bI
  go_upto_region 5 with (first | (go_at_call 84; refine (oneNear H1.out).mono ?_; rintro e w' ⟨rfl, rfl⟩) | (go_at_call 237; refine (delI0 _ _).mono ?_; rintro e w' ⟨rfl, rfl⟩))
  obtain ⟨W2, hW2⟩ : ∃ W2, W2 = w1.alloc (.cells #[.slice none 0 0] 27) := ⟨_, rfl⟩
  have hu2 : Upd [] w1 W2 := by rw [hW2]; exact (Upd.refl _ _).alloc _
  obtain ⟨lb, hlb⟩ : ∃ lb, lb = w1.heap.size := ⟨_, rfl⟩
  have bL : Blk W2 lb 27 #[.slice none 0 0] := by rw [hW2, hlb]; exact Blk.new _ _ _
  rw [← hW2, ← hlb]
  clear hW2 hlb
  have p2 := hu2.cell p0 (by simp)
  have i2 := hu2.cell i0 (by simp)
  clear p0 i0
  go_wp2_with fail
  refine (softUnaryMake W2 sb 0).mono ?_
  rintro e w3 ⟨rfl, hw3⟩
  have hu3 : Upd [] W2 w3 := by rw [hw3]; exact ((Upd.refl _ _).alloc _).alloc _
  obtain ⟨xb, hxb⟩ : ∃ xb, xb = W2.heap.size := ⟨_, rfl⟩
  obtain ⟨yb, hyb⟩ : ∃ yb, yb = W2.heap.size + 1 := ⟨_, rfl⟩
  have bX : Blk w3 xb 26 #[.pointer (some ⟨sb, 0, none⟩)] := by rw [hw3, hxb]; exact (Blk.new _ _ _).alloc _
  have bY : Blk w3 yb 3 #[.int .i64 0] := by
    rw [hw3, hyb]
    have := Blk.new (W2.alloc (.cells #[.pointer (some ⟨sb, 0, none⟩)] 26)) 3 #[.int .i64 0]
    rwa [World.size_alloc] at this
  rw [← hyb, ← hxb]
  clear hw3 hyb hxb p2 i2
  go_upto_region 6 with fail
  obtain ⟨W4, hW4⟩ : ∃ W4, W4 = w3.alloc (.cells #[.func (.func 307) #[] #[.pointer (some ⟨xb, 0, none⟩), .pointer (some ⟨yb, 0, none⟩)]] 183) := ⟨_, rfl⟩
  have hu4 : Upd [] w3 W4 := by rw [hW4]; exact (Upd.refl _ _).alloc _
  obtain ⟨ub, hub⟩ : ∃ ub, ub = w3.heap.size := ⟨_, rfl⟩
  have bU : Blk W4 ub 183 #[.func (.func 307) #[] #[.pointer (some ⟨xb, 0, none⟩), .pointer (some ⟨yb, 0, none⟩)]] := by rw [hW4, hub]; exact Blk.new _ _ _
  rw [← hW4, ← hub]
  clear hW4 hub
  have hu14 := (hu2.trans hu3).trans hu4
  have H4 := Lib.hid (H1.out.fresh hu14)
  have p4 : W4.cell? ⟨pb, 0, none⟩ = some (.pointer (some ⟨sb, 0, none⟩)) := (BP.out.upd hu14 (by simp)).cell 0
  have i4 : W4.cell? ⟨ib, 0, none⟩ = some (.int .i64 0) := (BI.out.upd hu14 (by simp)).cell 0
  have BX := Lib.hid (bX.upd hu4 (by simp))
  have BY := Lib.hid (bY.upd hu4 (by simp))
  have BL := Lib.hid (bL.upd (hu3.trans hu4) (by simp))
  have BU := Lib.hid bU
  clear bX bY bL bU
  go_wp2_with fail
  refine (oneLeastN H4.out _ _ _ _ (fun W hU => softNeed2 (H4.out.fresh hU) ub lb pb ib xb yb ((BU.out.upd hU (by simp)).cell 0) (BX.out.upd hU (by simp)) (BY.out.upd hU (by simp)) (BL.out.upd hU (by simp)))).mono ?_
  rintro e w5 ⟨rfl, hu5⟩
  go_wp2_with fail
  go_ret3
  exact ⟨rfl, ((hu0.trans hu1).trans hu14).trans hu5⟩
end
end Go.Proofs.YtmmkeaokhbmgoaaGreatDoor
