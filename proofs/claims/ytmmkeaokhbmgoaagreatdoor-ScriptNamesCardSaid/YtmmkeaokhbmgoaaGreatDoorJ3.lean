/- edac, script.enforce, Do{Enforce} on the state of one variable. -/
import Derived.Test.YtmmkeaokhbmgoaaGreatDoorJ2
namespace Go.Proofs.YtmmkeaokhbmgoaaGreatDoor
open Go.RowKit Go.Shelf

section
variable {w : World} {sb nb tb : Nat} {vc V : Value}
theorem oneEdacOnce (h : One w sb nb tb vc V) : Calls Tryz.prog 162 #[.pointer (some ⟨sb, 0, none⟩)] w fun e w' => e = .returned (.tuple #[.bool false, .int .i64 0]) ∧ Upd [] w w' := by
  have H := Lib.hid h; clear h
  go_enter Tryz.func162, Tryz.ntmps162
  go_wp2_with fail
  go_step3
  go_wp2_with fail
  refine (oneDacOnce H.out).mono ?_
  rintro e w1 ⟨rfl, hu1⟩
  have H1 := Lib.hid (H.out.fresh hu1)
  go_wp2_with fail
  go_step3
  go_wp2_with fail
  refine (oneN H1.out).mono ?_
  rintro e w' ⟨rfl, rfl⟩
  go_wp2_with fail
  refine wp_loop_rounds 2 ?_
  rw [rounds_succ]
  go_wp2_with fail
  refine (oneNeed H1.out).mono ?_
  rintro e w2 ⟨rfl, hu2⟩
  go_wp2_with fail
  rw [rounds_succ]
  go_wp2_with fail
  rw [Exit.noGoto_ret]
  go_ret2
  exact ⟨rfl, hu1.trans hu2⟩
theorem oneEdacEnforce (h : One w sb nb tb vc V) : Calls Tryz.prog 78 #[.pointer (some ⟨sb, 0, none⟩)] w fun e w' => e = .returned (.int .i64 0) ∧ Upd [] w w' := by
  have H := Lib.hid h; clear h
  go_enter Tryz.func78, Tryz.ntmps78
  go_wp2_with fail
  refine wp_loop_rounds 1 ?_
  rw [rounds_succ]
  go_wp2_with fail
  refine (oneEdacOnce H.out).mono ?_
  rintro e w1 ⟨rfl, hu1⟩
  go_wp2_with fail
  (try simp only [Exit.inBlock, Exit.then])
  go_ret
  exact ⟨rfl, hu1⟩
theorem oneEnforce (h : One w sb nb tb vc V) (a : Int) : Calls Tryz.prog 23 #[.pointer (some ⟨sb, 0, none⟩), .int .i64 a] w fun e w' => e = .returned (.int .i64 (if 0 ≤ a ∧ a ≤ 4 then 0 else 1)) ∧ Upd [] w w' := by
  have H := Lib.hid h; clear h
  by_cases ha : 0 ≤ a ∧ a ≤ 4
  · rw [if_pos ha]
    have h5 : a = 0 ∨ a = 1 ∨ a = 2 ∨ a = 3 ∨ a = 4 := by omega
    clear ha
    rcases h5 with rfl | rfl | rfl | rfl | rfl
    all_goals
      go_enter Tryz.func23, Tryz.ntmps23
      go_wp2_with (first | (go_at_call 75; refine (oneNcEnforce H.out).mono ?_; rintro e w1 ⟨rfl, hu1⟩) | (go_at_call 76; refine (oneAcEnforce H.out).mono ?_; rintro e w1 ⟨rfl, hu1⟩) | (go_at_call 77; refine (oneDacEnforce H.out).mono ?_; rintro e w1 ⟨rfl, hu1⟩) | (go_at_call 78; refine (oneEdacEnforce H.out).mono ?_; rintro e w1 ⟨rfl, hu1⟩))
      (try simp only [Exit.inBlock, Exit.then])
      go_ret
      first | exact ⟨rfl, hu1⟩ | exact ⟨rfl, Upd.refl _ _⟩
  · rw [if_neg ha]
    have n0 : ¬ a = 0 := by omega
    have n1 : ¬ a = 1 := by omega
    have n2 : ¬ a = 2 := by omega
    have n3 : ¬ a = 3 := by omega
    have n4 : ¬ a = 4 := by omega
    clear ha
    go_enter Tryz.func23, Tryz.ntmps23
    go_wp2_with fail
    (try simp only [Exit.inBlock, Exit.then])
    go_ret
    exact ⟨rfl, Upd.refl _ _⟩
theorem doLevel (h : One w sb nb tb vc V) (a b c d : Int) : Calls Tryz.prog 8 #[.pointer (some ⟨sb, 0, none⟩), .agg #[.int .i64 6, .int .i64 a, .int .i64 b, .int .i64 c, .int .i64 d]] w fun e w' => e = .returned (.int .i64 (if 0 ≤ a ∧ a ≤ 4 then 0 else 1)) ∧ Upd [] w w' := by
  have H := Lib.hid h; clear h
  have hu : ∀ o, Upd [] w (w.alloc o) := fun o => (Upd.refl _ _).alloc o
  have hE : ∀ o, Calls Tryz.prog 23 #[.pointer (some ⟨sb, 0, none⟩), .int .i64 a] (w.alloc o) fun e w' => e = .returned (.int .i64 (if 0 ≤ a ∧ a ≤ 4 then 0 else 1)) ∧ Upd [] (w.alloc o) w' := fun o => oneEnforce (H.out.fresh (hu o)) a
  generalize (if 0 ≤ a ∧ a ≤ 4 then (0 : Int) else 1) = r at *
  have hL := Lib.hid hE
  clear hE
  go_enter Tryz.func8, Tryz.ntmps8
  go_wp2_with (go_at_call 23; refine (hL.out _).mono ?_; rintro e w1 ⟨rfl, hu1⟩)
  (try simp only [Exit.inBlock, Exit.then])
  go_ret
  exact ⟨rfl, (hu _).trans hu1⟩
end
end Go.Proofs.YtmmkeaokhbmgoaaGreatDoor
