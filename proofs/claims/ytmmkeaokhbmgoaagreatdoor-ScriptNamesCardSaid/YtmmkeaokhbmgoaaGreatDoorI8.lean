/- ac, dac on the state of one variable. -/
import Derived.Test.YtmmkeaokhbmgoaaGreatDoorI7
namespace Go.Proofs.YtmmkeaokhbmgoaaGreatDoor
open Go.RowKit Go.Shelf

theorem queueNew0 (w : World) : Calls Tryz.prog 279 #[.int .i64 0] w fun e w' => ∃ q A c, e = .returned (.pointer (some ⟨q, 0, none⟩)) ∧ Blk w' q 395 #[.slice none 0 0, .slice A 0 c] ∧ Upd [] w w' := by
  go_enter Tryz.func279, Tryz.ntmps279
  go_wp2_with (at_make; go_must (refine wpList_make_sl _ rfl _ _ rfl ty_ints _ 0 (by simp [Act.eval]) (by simp [Act.eval]) rfl (by decide) (by decide) ?_); intro w1 hown hg)
  have hu1 : Upd [] w w1 := (Upd.refl _ _).grown hg (fun k hk => by cases hk)
  refine wp_loop_rounds 1 ?_
  rw [rounds_succ]
  go_wp2_with fail
  go_ret
  exact ⟨_, _, 0, rfl, Blk.new _ _ _, hu1.alloc _⟩
theorem queueLen0 (q : Nat) (t : TypeId) (v : Value) (w : World) (h : Blk w q t #[.slice none 0 0, v]) : Calls Tryz.prog 310 #[.pointer (some ⟨q, 0, none⟩)] w fun e w' => e = .returned (.int .i64 0) ∧ w = w' := by
  have k0 := h.cell 0
  simp at k0
  clear h
  go_enter Tryz.func310, Tryz.ntmps310
  go_wp2_with fail
  go_ret
  exact ⟨rfl, rfl⟩
theorem queueTop0 (q : Nat) (t : TypeId) (v : Value) (w : World) (h : Blk w q t #[.slice none 0 0, v]) : Calls Tryz.prog 281 #[.pointer (some ⟨q, 0, none⟩)] w fun e w' => e = .returned (.tuple #[.int .i64 0, .int .i64 0, .bool false]) ∧ w = w' := by
  have H := Lib.hid h; clear h
  go_enter Tryz.func281, Tryz.ntmps281
  go_wp2_with (go_at_call 310; refine (queueLen0 q t v w H.out).mono ?_; rintro e w' ⟨rfl, rfl⟩)
  (try simp only [Exit.inBlock, Exit.then])
  go_ret3
  exact ⟨rfl, rfl⟩
theorem queuePop0 (q : Nat) (t : TypeId) (v : Value) (w : World) (h : Blk w q t #[.slice none 0 0, v]) : Calls Tryz.prog 232 #[.pointer (some ⟨q, 0, none⟩)] w fun e w' => e = .returned (.tuple #[.int .i64 0, .int .i64 0, .bool false]) ∧ w = w' := by
  have H := Lib.hid h; clear h
  go_enter Tryz.func232, Tryz.ntmps232
  go_wp2_with (go_at_call 281; refine (queueTop0 q t v w H.out).mono ?_; rintro e w' ⟨rfl, rfl⟩)
  go_ret3
  exact ⟨rfl, rfl⟩
section
variable {w : World} {sb nb tb : Nat} {vc V : Value}
theorem oneAll (h : One w sb nb tb vc V) : Calls Tryz.prog 231 #[.pointer (some ⟨sb, 0, none⟩)] w fun e w' => ∃ q A c, e = .returned (.pointer (some ⟨q, 0, none⟩)) ∧ Blk w' q 395 #[.slice none 0 0, .slice A 0 c] ∧ Upd [] w w' := by
  have H := Lib.hid h; clear h
  go_enter Tryz.func231, Tryz.ntmps231
  go_wp2_with fail
  refine (oneFuns H.out).mono ?_
  rintro e w' ⟨rfl, rfl⟩
  go_wp2_with fail
  refine (queueNew0 w).mono ?_
  rintro e w1 ⟨q, A, c, rfl, hB, hu1⟩
  have H1 := Lib.hid (H.out.fresh hu1)
  go_wp2_with fail
  refine (oneFuns H1.out).mono ?_
  rintro e w' ⟨rfl, rfl⟩
  go_wp2_with fail
  refine wp_loop_rounds 1 ?_
  rw [rounds_succ]
  go_wp2_with fail
  go_ret
  exact ⟨q, A, c, rfl, hB, hu1⟩
theorem oneAcOnce (h : One w sb nb tb vc V) : Calls Tryz.prog 160 #[.pointer (some ⟨sb, 0, none⟩)] w fun e w' => e = .returned (.tuple #[.bool false, .int .i64 0]) ∧ Upd [] w w' := by
  have H := Lib.hid h; clear h
  go_enter Tryz.func160, Tryz.ntmps160
  go_wp2_with fail
  refine (oneNcOnce H.out).mono ?_
  rintro e w1 ⟨rfl, hu1⟩
  have H1 := Lib.hid (H.out.fresh hu1)
  go_wp2_with fail
  refine (oneAll H1.out).mono ?_
  rintro e w2 ⟨q, A, c, rfl, hB, hu2⟩
  go_wp2_with fail
  refine wp_loop_rounds 1 ?_
  rw [rounds_succ]
  go_wp2_with fail
  refine (queuePop0 q _ _ w2 hB).mono ?_
  rintro e w' ⟨rfl, rfl⟩
  go_wp2_with fail
  (try simp only [Exit.inBlock, Exit.then])
  go_ret2
  exact ⟨rfl, hu1.trans hu2⟩
theorem oneAcEnforce (h : One w sb nb tb vc V) : Calls Tryz.prog 76 #[.pointer (some ⟨sb, 0, none⟩)] w fun e w' => e = .returned (.int .i64 0) ∧ Upd [] w w' := by
  have H := Lib.hid h; clear h
  go_enter Tryz.func76, Tryz.ntmps76
  go_wp2_with fail
  refine wp_loop_rounds 1 ?_
  rw [rounds_succ]
  go_wp2_with fail
  refine (oneAcOnce H.out).mono ?_
  rintro e w1 ⟨rfl, hu1⟩
  go_wp2_with fail
  (try simp only [Exit.inBlock, Exit.then])
  go_ret
  exact ⟨rfl, hu1⟩
theorem oneDacOnce (h : One w sb nb tb vc V) : Calls Tryz.prog 161 #[.pointer (some ⟨sb, 0, none⟩)] w fun e w' => e = .returned (.tuple #[.bool false, .int .i64 0]) ∧ Upd [] w w' := by
  have H := Lib.hid h; clear h
  go_enter Tryz.func161, Tryz.ntmps161
  go_wp2_with fail
  refine (oneAcOnce H.out).mono ?_
  rintro e w1 ⟨rfl, hu1⟩
  have H1 := Lib.hid (H.out.fresh hu1)
  go_wp2_with fail
  refine (oneFuns H1.out).mono ?_
  rintro e w' ⟨rfl, rfl⟩
  go_wp2_with fail
  refine wp_loop_rounds 1 ?_
  rw [rounds_succ]
  go_wp2_with fail
  go_ret2
  exact ⟨rfl, hu1⟩
theorem oneDacEnforce (h : One w sb nb tb vc V) : Calls Tryz.prog 77 #[.pointer (some ⟨sb, 0, none⟩)] w fun e w' => e = .returned (.int .i64 0) ∧ Upd [] w w' := by
  have H := Lib.hid h; clear h
  go_enter Tryz.func77, Tryz.ntmps77
  go_wp2_with fail
  refine wp_loop_rounds 1 ?_
  rw [rounds_succ]
  go_wp2_with fail
  refine (oneDacOnce H.out).mono ?_
  rintro e w1 ⟨rfl, hu1⟩
  go_wp2_with fail
  (try simp only [Exit.inBlock, Exit.then])
  go_ret
  exact ⟨rfl, hu1⟩
end
end Go.Proofs.YtmmkeaokhbmgoaaGreatDoor
