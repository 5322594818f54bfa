/- The state of one variable of one value: what it answers. -/
import Derived.Test.YtmmkeaokhbmgoaaGreatDoorI1
namespace Go.Proofs.YtmmkeaokhbmgoaaGreatDoor
open Go.RowKit Go.Shelf

structure One (w : World) (sb nb tb : Nat) (vc V : Value) : Prop where
  st : St0 w sb nb tb vc V [[0]] 1 (stamp0 [0, 0, 0, 0, 0, 0])
  nt : Nt w (sb :: tb :: (vc.ownBlock.toList ++ V.ownBlock.toList)) nb 1 0 [1] [[0]] none 0 0
  tab : w.cell? ⟨0, 0, none⟩ = some (.int .u8 0)
section
variable {w : World} {sb nb tb : Nat} {vc V : Value}
theorem One.fresh {w' : World} (h : One w sb nb tb vc V) (hu : Upd [] w w') : One w' sb nb tb vc V := ⟨h.st.fresh hu, h.nt.upd (hu.mono (by simp)), hu.cell h.tab (by simp)⟩
theorem One.drewN (h : One w sb nb tb vc V) (n : Nat) : One (w.drewN n) sb nb tb vc V := h.fresh ((Upd.refl _ _).drewN n)
theorem One.get (h : One w sb nb tb vc V) (i : Int) (c : Int) (hc : cellAt (stamp0 [0, 0, 0, 0, 0, 0]) i = c) : Calls Tryz.prog 92 #[.pointer (some ⟨tb, 0, none⟩), .int .i64 i] w fun e w' => e = .returned (.int .i64 c) ∧ w = w' := hc ▸ trGet h.st.tr i
/-- The vars row: its one cell. -/
theorem One.vars (h : One w sb nb tb vc V) : ∃ g c, V = .slice (some ⟨g, 0, none⟩) 1 c ∧ w.cell? ⟨g, 0, none⟩ = some (.int .i64 3) := by
  obtain ⟨g, c, rfl, _⟩ := own_some h.st.own (by decide)
  exact ⟨g, c, rfl, own_cell' h.st.own (j := 0) rfl⟩
theorem oneNet (h : One w sb nb tb vc V) : Calls Tryz.prog 157 #[.pointer (some ⟨sb, 0, none⟩)] w fun e w' => e = .returned (.pointer (some ⟨nb, 0, none⟩)) ∧ w = w' := by
  have k0 := h.st.blk.cell 0
  simp at k0
  clear h
  go_enter Tryz.func157, Tryz.ntmps157
  go_wp2_with fail
  go_ret
  exact ⟨rfl, rfl⟩
theorem oneN (h : One w sb nb tb vc V) : Calls Tryz.prog 88 #[.pointer (some ⟨sb, 0, none⟩)] w fun e w' => e = .returned (.int .i64 1) ∧ w = w' := by
  have H := Lib.hid h; clear h
  go_enter Tryz.func88, Tryz.ntmps88
  go_wp2_with (first | (go_at_call 157; refine (oneNet H.out).mono ?_; rintro e w' ⟨rfl, rfl⟩) | (go_at_call 51; refine (ntN H.out.nt).mono ?_; rintro e w' ⟨rfl, rfl⟩))
  go_ret
  exact ⟨rfl, rfl⟩
theorem oneK (h : One w sb nb tb vc V) : Calls Tryz.prog 73 #[.pointer (some ⟨sb, 0, none⟩)] w fun e w' => e = .returned (.int .i64 1) ∧ w = w' := by
  have H := Lib.hid h; clear h
  go_enter Tryz.func73, Tryz.ntmps73
  go_wp2_with (first | (go_at_call 157; refine (oneNet H.out).mono ?_; rintro e w' ⟨rfl, rfl⟩) | (go_at_call 158; refine (ntK H.out.nt).mono ?_; rintro e w' ⟨rfl, rfl⟩))
  go_ret
  exact ⟨rfl, rfl⟩
theorem oneZero (h : One w sb nb tb vc V) : Calls Tryz.prog 70 #[.pointer (some ⟨sb, 0, none⟩)] w fun e w' => e = .returned (.int .i64 0) ∧ w = w' := by
  have k1 := h.st.blk.cell 1
  simp at k1
  have H := Lib.hid h; clear h
  go_enter Tryz.func70, Tryz.ntmps70
  go_wp2_with (go_at_call 92; refine (H.out.get 0 0 rfl).mono ?_; rintro e w' ⟨rfl, rfl⟩)
  go_ret
  exact ⟨rfl, rfl⟩
theorem oneFuns (h : One w sb nb tb vc V) : Calls Tryz.prog 176 #[.pointer (some ⟨sb, 0, none⟩)] w fun e w' => e = .returned (.int .i64 0) ∧ w = w' := by
  have k3 := h.st.blk.cell 3
  simp at k3
  clear h
  go_enter Tryz.func176, Tryz.ntmps176
  go_wp2_with fail
  go_ret
  exact ⟨rfl, rfl⟩
theorem oneHas (h : One w sb nb tb vc V) : Calls Tryz.prog 147 #[.pointer (some ⟨sb, 0, none⟩), .int .i64 0] w fun e w' => e = .returned (.bool true) ∧ w = w' := by
  have H := Lib.hid h; clear h
  go_enter Tryz.func147, Tryz.ntmps147
  go_wp2_with (go_at_call 88; refine (oneN H.out).mono ?_; rintro e w' ⟨rfl, rfl⟩)
  go_ret
  exact ⟨rfl, rfl⟩
theorem oneGone (h : One w sb nb tb vc V) : Calls Tryz.prog 145 #[.pointer (some ⟨sb, 0, none⟩), .int .i64 0] w fun e w' => e = .returned (.bool false) ∧ Upd [] w w' := by
  obtain ⟨g, c, rfl, hg⟩ := h.vars
  have k1 := h.st.blk.cell 1
  have k2 := h.st.blk.cell 2
  simp at k1 k2
  have H := Lib.hid h; clear h
  go_enter Tryz.func145, Tryz.ntmps145
  go_wp2_with fail
  go_quiet (first | (go_at_call 147; exact Calls.quiet_of_same ((oneHas (H.out.drewN _)).mono (by rintro e w' ⟨rfl, rfl⟩; exact ⟨rfl, rfl⟩))) | (go_at_call 92; exact Calls.quiet_of_same (((H.out.drewN _).get 3 0 rfl).mono (by rintro e w' ⟨rfl, rfl⟩; exact ⟨rfl, rfl⟩))))
  go_wp2_with fail
  go_ret
  exact ⟨rfl, (Upd.refl _ _).drewN _⟩
theorem oneIdx (h : One w sb nb tb vc V) : Calls Tryz.prog 144 #[.pointer (some ⟨sb, 0, none⟩), .int .i64 0, .int .i64 0] w fun e w' => e = .returned (.int .i64 5) ∧ Upd [] w w' := by
  have k0 := h.st.blk.cell 0
  simp at k0
  have H := Lib.hid h; clear h
  go_enter Tryz.func144, Tryz.ntmps144
  go_wp2_with (first | (go_at_call 147; refine (oneHas H.out).mono ?_; rintro e w' ⟨rfl, rfl⟩) | (go_at_call 149; refine ((ntSize H.out.nt 0).mono (R' := fun e w' => e = .returned (.int .i64 1) ∧ Upd [] w w') (fun e w' h => h)).mono ?_; rintro e w1 ⟨rfl, hu1⟩; have H1 := H.out.fresh hu1; obtain ⟨g, c, rfl, hg⟩ := H1.vars; have k2 : w1.cell? ⟨sb, 2, none⟩ = some (.slice (some ⟨g, 0, none⟩) 1 c) := (by simpa using H1.st.blk.cell 2)))
  go_ret
  exact ⟨rfl, hu1⟩
theorem oneUnary (h : One w sb nb tb vc V) : Calls Tryz.prog 65 #[.pointer (some ⟨sb, 0, none⟩), .int .i64 0, .int .i64 0] w fun e w' => e = .returned (.tuple #[.int .i64 0, .int .i64 0]) ∧ Upd [] w w' := by
  have H := Lib.hid h; clear h
  go_enter Tryz.func65, Tryz.ntmps65
  go_wp2_with (first | (go_at_call 144; refine (oneIdx H.out).mono ?_; rintro e w1 ⟨rfl, hu1⟩; have H1 := Lib.hid (H.out.fresh hu1); have k1 : w1.cell? ⟨sb, 1, none⟩ = some (.pointer (some ⟨tb, 0, none⟩)) := (by simpa using H1.out.st.blk.cell 1)) | (go_at_call 92; refine (H1.out.get 5 0 rfl).mono ?_; rintro e w' ⟨rfl, rfl⟩))
  go_ret2
  exact ⟨rfl, hu1⟩
set_option maxRecDepth 10000 in
theorem oneDom (h : One w sb nb tb vc V) : Calls Tryz.prog 67 #[.pointer (some ⟨sb, 0, none⟩), .int .i64 0] w fun e w' => e = .returned (.agg #[.int .u64 1, .int .i64 1]) ∧ Upd [] w w' := by
  have H := Lib.hid h; clear h
  go_enter Tryz.func67, Tryz.ntmps67
  go_wp2_with fail
  obtain ⟨W, hW⟩ : ∃ W, W = w.alloc (.cells #[.int .u64 0, .int .i64 0] 166) := ⟨_, rfl⟩
  have hBr : Blk W w.heap.size 166 #[.int .u64 0, .int .i64 0] := by rw [hW]; exact Blk.new _ _ _
  have hu : Upd [] w W := by rw [hW]; exact (Upd.refl _ _).alloc _
  rw [← hW]
  clear hW
  obtain ⟨rb, hrb⟩ : ∃ rb, rb = w.heap.size := ⟨_, rfl⟩
  rw [← hrb] at hBr ⊢
  have hge : w.heap.size ≤ rb := by omega
  clear hrb
  have HW := Lib.hid (H.out.fresh hu)
  refine (oneHas HW.out).mono ?_
  rintro e w' ⟨rfl, rfl⟩
  have k0 : W.cell? ⟨sb, 0, none⟩ = some (.pointer (some ⟨nb, 0, none⟩)) := by simpa using HW.out.st.blk.cell 0
  go_wp2_with fail
  refine ((ntSize HW.out.nt 0).mono (R' := fun e w' => e = .returned (.int .i64 1) ∧ Upd [] W w') (fun e w' h => h)).mono ?_
  rintro e w1 ⟨rfl, hu1⟩
  go_wp2_with fail
  refine (domNew1 w1).mono ?_
  rintro e w2 ⟨rfl, hu2⟩
  go_wp2_with fail
  obtain ⟨W3, hW3⟩ : ∃ W3, W3 = w2.alloc (.cells #[.int .u64 1, .int .i64 1] 166) := ⟨_, rfl⟩
  have hBd : Blk W3 w2.heap.size 166 #[.int .u64 1, .int .i64 1] := by rw [hW3]; exact Blk.new _ _ _
  have hu3 : Upd [] W W3 := by rw [hW3]; exact ((hu1.then_nil hu2).alloc _)
  have hne : rb ≠ w2.heap.size := by have := hBr.lt; have := (hu1.then_nil hu2).size; omega
  rw [← hW3]
  clear hW3
  generalize w2.heap.size = d at *
  have H3 := Lib.hid (HW.out.fresh hu3)
  obtain ⟨g, c, rfl, hg⟩ := H3.out.vars
  have k1 := H3.out.st.blk.cell 1
  have k2 := H3.out.st.blk.cell 2
  simp at k1 k2
  go_quiet ((go_at_call 92; exact Calls.quiet_of_same (((H3.out.drewN _).get 4 0 rfl).mono (by rintro e w' ⟨rfl, rfl⟩; exact ⟨rfl, rfl⟩))))
  have d0 := hBd.cell 0
  have d1 := hBd.cell 1
  simp at d0 d1
  have HBD := Lib.hid hBd
  have HBR := Lib.hid (hBr.upd hu3 (by simp))
  clear hBd hBr k1 k2 hg k0
  go_wp2_with (go_at_call 146; refine (domSize1 _).mono ?_; rintro e w4 ⟨rfl, hu4⟩)
  have hu4' : Upd [] W3 w4 := (Upd.drewN (Upd.refl [] W3) _).trans hu4
  have e0 := (HBD.out.upd hu4' (by simp)).cell 0
  have e1 := (HBD.out.upd hu4' (by simp)).cell 1
  have hBr4 := HBR.out.upd hu4' (by simp)
  have r0 := hBr4.cell 0
  have r1 := hBr4.cell 1
  have p0 := hBr4.froz 0
  have p1 := hBr4.froz 1
  simp at e0 e1 r0 r1
  refine wp_loop_rounds 2 ?_
  rw [rounds_succ]
  have hb0 : bits BinOp.and IntKind.i64 0 1 = 0 := by decide
  go_wp2_with fail
  rw [rounds_succ]
  go_wp2_with fail
  have hfin := (hBr4.set 0 (.int .u64 1)).set 1 (.int .i64 1)
  simp at hfin
  have hU5 : Upd [rb] w4 ((w4.setCell ⟨rb, 0, none⟩ (.int .u64 1)).setCell ⟨rb, 1, none⟩ (.int .i64 1)) := ((Upd.refl [rb] w4).setCell (p := ⟨rb, 0, none⟩) (.inl (by simp)) (.int .u64 1)).setCell (p := ⟨rb, 1, none⟩) (.inl (by simp)) (.int .i64 1)
  have c0' := hfin.cell 0; have c1' := hfin.cell 1
  simp only [List.getElem?_toArray, List.getElem?_cons_succ, List.getElem?_cons_zero] at c0' c1'
  generalize ((w4.setCell ⟨rb, 0, none⟩ (.int .u64 1)).setCell ⟨rb, 1, none⟩ (.int .i64 1)) = WF at *
  refine bodyPost_ret (v := .agg #[.int .u64 1, .int .i64 1]) (by simp [results, Tryz.results67, go_sem, c0', c1']) rfl ?_
  exact ⟨rfl, ((hu.then_nil hu3).then_nil hu4').then hU5 (by simp [hge])⟩
end
end Go.Proofs.YtmmkeaokhbmgoaaGreatDoor
