/- The document's network of a file without functions (one variable of one value): r8.Canon, r9.Of. -/
import Derived.Test.YtmmkeaokhbmgoaaGreatDoorE4
import Derived.Deep.RegionLaw
namespace Go.Proofs.YtmmkeaokhbmgoaaGreatDoor
open Go.RowKit

set_option maxRecDepth 100000 in
theorem rcanon0 (b : Nat) (t : TypeId) (v0 v1 v2 : Value) (w : World) (hB : Blk w b t #[v0, v1, v2, .slice none 0 0]) :
    Calls Tryz.prog 58 #[.pointer (some ⟨b, 0, none⟩)] w fun e w' => e = .returned (.slice none 0 0) ∧ w = w' := by
  have h3 := hB.cell 3
  simp at h3
  clear hB
  go_enter Tryz.func58, Tryz.ntmps58
  go_wp2_with fail
  refine wp_loop_rounds 1 ?_
  rw [rounds_succ]
  go_wp2_with fail
  refine wp_loop_rounds 1 ?_
  rw [rounds_succ]
  go_wp2_with fail
  go_ret
  exact ⟨rfl, rfl⟩

def ROfPost (w : World) (e : Ending) (w' : World) : Prop :=
  ∃ S sc U uc V vc, e = .returned (.agg #[.int .i64 1, .slice S 1 sc, .int .i64 0, .slice U 1 uc, .slice none 0 0]) ∧ Sl w' [] 1 S 1 [intV 1] ∧ Sl w' [] 1 U 1 [.slice V 1 vc] ∧ Sl w' [] 1 V 1 [intV 0] ∧ Upd [] w w'

set_option maxRecDepth 100000 in
set_option maxHeartbeats 1000000 in
theorem rof0 (b : Nat) (t : TypeId) (A : Option Addr) (c : Nat) (w : World) (hB : Blk w b t #[.string ⟨[116].toArray⟩, .int .i64 1, .slice A 1 c, .slice none 0 0]) (hs : Sl w [] 1 A 1 [intV 1]) :
    Calls Tryz.prog 16 #[.pointer (some ⟨b, 0, none⟩)] w (ROfPost w) := by
  have h1 := hB.cell 1
  have h2 := hB.cell 2
  have k2 : ∀ o, (w.alloc o).cell? ⟨b, 2, none⟩ = some (.slice A 1 c) := fun o => by simpa using (hB.alloc o).cell 2
  have k1 : ∀ o, (w.alloc o).cell? ⟨b, 1, none⟩ = some (.int .i64 1) := fun o => by simpa using (hB.alloc o).cell 1
  have kk2 : ∀ o o', ((w.alloc o).alloc o').cell? ⟨b, 2, none⟩ = some (.slice A 1 c) := fun o o' => by simpa using ((hB.alloc o).alloc o').cell 2
  simp at h1 h2
  have HB := Lib.hid hB; clear hB
  have HS := Lib.hid hs; clear hs
  go_enter Tryz.func16, Tryz.ntmps16
  go_wp2_with fail
  obtain ⟨W, hW⟩ : ∃ W, W = ((w.alloc (.cells #[.int .i64 0, .slice none 0 0, .int .i64 0, .slice none 0 0, .slice none 0 0] 62)).alloc (.cells #[.int .i64 1, .slice none 0 0, .int .i64 0, .slice none 0 0, .slice none 0 0] 62)) := ⟨_, rfl⟩
  rw [← hW]
  have hBr : Blk W w.heap.size 62 #[.int .i64 0, .slice none 0 0, .int .i64 0, .slice none 0 0, .slice none 0 0] := by rw [hW]; exact (Blk.new _ _ _).alloc _
  have hBn : Blk W (w.heap.size + 1) 62 #[.int .i64 1, .slice none 0 0, .int .i64 0, .slice none 0 0, .slice none 0 0] := by rw [hW]; have := Blk.new (w.alloc (.cells #[.int .i64 0, .slice none 0 0, .int .i64 0, .slice none 0 0, .slice none 0 0] 62)) 62 #[.int .i64 1, .slice none 0 0, .int .i64 0, .slice none 0 0, .slice none 0 0]; rwa [World.size_alloc] at this
  have hu : Upd [] w W := by rw [hW]; exact ((Upd.refl _ _).alloc _).alloc _
  have hsW := HS.out.upd hu
  have hBW := HB.out.upd hu (by simp)
  obtain ⟨rb, hrb⟩ : ∃ rb, rb = w.heap.size := ⟨_, rfl⟩
  obtain ⟨nb, hnb⟩ : ∃ nb, nb = w.heap.size + 1 := ⟨_, rfl⟩
  rw [← hnb] at hBn ⊢
  rw [← hrb] at hBr ⊢
  have hne : rb ≠ nb := by omega
  have hge : w.heap.size ≤ rb ∧ w.heap.size ≤ nb := by omega
  have hbn : b ≠ nb := by have := HB.out.lt; omega
  clear hW k1 k2 kk2 h1 h2 HB HS hrb hnb
  obtain ⟨ad, rfl, hc0⟩ := hsW.get (k := 0) (by omega)
  rw [add_zero'] at hc0
  simp [intV] at hc0
  have n1 := hBn.cell 1
  have n3 := hBn.cell 3
  have n1' : ∀ o, (W.alloc o).cell? ⟨nb, 1, none⟩ = some (.slice none 0 0) := fun o => by simpa using (hBn.alloc o).cell 1
  simp at n1 n3
  have b3 := hBW.cell 3
  simp at b3
  have HBN := Lib.hid hBn
  have HBR := Lib.hid hBr
  have HBW := Lib.hid hBW
  clear hBn hBr hBW hsW
  refine wp_loop_rounds 2 ?_
  rw [rounds_succ]
  go_wp2_with (at_builtin; go_must (refine wpList_append_sl rfl _ _ rfl ty_ints W.heap.size (.slice none 0 0) 0 [] rfl (World.ownsRow_nil _ _ _ _) [] _ 1 1 [.int .i64 1] rfl (Sl.of_blk (cs := #[.int .i64 1]) (t := 3) (by exact Blk.new W _ _) (by simp)) (by simp [Value.oneCell']) (by decide) (by decide) (by simp) ?_); intro v5 w5 hown5 hg5 hv5 hn5; obtain ⟨g5, c5, rfl, hg5', hl5, hc5⟩ := own_some hown5 (by decide); have hu5 : Upd [] W w5 := (((Upd.refl [] W).alloc _).grown hg5 (fun k hk => by cases hk)); have q1 : w5.cell? ⟨nb, 1, none⟩ = some (.slice none 0 0) := (by simpa using (HBN.out.upd hu5 (by simp)).cell 1); have f1 := (HBN.out.upd hu5 (by simp)).froz 1)
  have hB6 := (HBN.out.upd hu5 (by simp)).set 1 (.slice (some ⟨g5, 0, none⟩) 1 c5)
  have hBw6 := ((HBW.out.upd hu5 (by simp)).far (p := ⟨nb, 1, none⟩) hbn (.slice (some ⟨g5, 0, none⟩) 1 c5))
  have hBr6 := ((HBR.out.upd hu5 (by simp)).far (p := ⟨nb, 1, none⟩) hne (.slice (some ⟨g5, 0, none⟩) 1 c5))
  have hnl := HBN.out.lt
  have hrl := HBR.out.lt
  have hS6 := Sl.of_own [nb, rb] (own_upd hown5 ((Upd.refl [nb] w5).setCell (p := ⟨nb, 1, none⟩) (.inl (by simp)) (.slice (some ⟨g5, 0, none⟩) 1 c5)) (by rintro g ⟨⟩; simp; omega)) (by simp; omega)
  have hu6 : Upd [nb] W (w5.setCell ⟨nb, 1, none⟩ (.slice (some ⟨g5, 0, none⟩) 1 c5)) := (hu5.mono (by simp)).setCell (.inl (by simp)) _
  have hu06 : Upd [] w (w5.setCell ⟨nb, 1, none⟩ (.slice (some ⟨g5, 0, none⟩) 1 c5)) := hu.then hu6 (by simp; omega)
  have hs6 := hu6.size
  generalize w5.setCell ⟨nb, 1, none⟩ (.slice (some ⟨g5, 0, none⟩) 1 c5) = W6 at *
  simp at hB6 hS6
  have m3 := hB6.cell 3
  have m3' : ∀ o, (W6.alloc o).cell? ⟨nb, 3, none⟩ = some (.slice none 0 0) := fun o => by simpa using (hB6.alloc o).cell 3
  have m3'' : ∀ o o', ((W6.alloc o).alloc o').cell? ⟨nb, 3, none⟩ = some (.slice none 0 0) := fun o o' => by simpa using ((hB6.alloc o).alloc o').cell 3
  simp at m3
  have H6 := Lib.hid hB6
  have HW6 := Lib.hid hBw6
  have HR6 := Lib.hid hBr6
  have HS6 := Lib.hid hS6
  clear hB6 hBw6 hBr6 hS6 hown5 hg5 hv5 hn5 hg5' hl5 q1 f1 hu5 n1' n1 n3 b3 HBN HBR HBW hc0 hu hu6
  have MK := make1
  go_region_law ((refine step_append_sl rfl (.tmp 29) (.tmp 32) rfl ty_rows W6.heap.size (.slice none 0 0) 0 [] rfl (World.ownsRow_nil _ _ _ _) [] _ 1 1 [.slice (some ⟨W6.heap.size, 0, none⟩) 1 1] rfl (Sl.of_blk (cs := #[.slice (some ⟨W6.heap.size, 0, none⟩) 1 1]) (t := 51) (by (have h := Blk.new (W6.alloc (.cells #[.int .i64 0] 2)) 51 #[.slice (some ⟨W6.heap.size, 0, none⟩) 1 1]; simp only [World.size_alloc] at h; exact h)) (by simp)) (by simp [Value.oneCell']) (by decide) (by decide) ?_ ?_; (simp; omega); intro v7 w7 hown7 hg7 hv7 hn7; obtain ⟨g7, c7, rfl, hg7', hl7, hc7⟩ := own_some hown7 (by decide); have hu7 := (Upd.refl [] _).grown hg7 (fun k hk => by cases hk); have hB7 := (((H6.out.alloc (.cells #[.int .i64 0] 2)).alloc (.cells #[.slice (some ⟨W6.heap.size, 0, none⟩) 1 1] 51)).drew).upd hu7 (by simp); have hV7 := (((Blk.new W6 2 #[.int .i64 0]).alloc (.cells #[.slice (some ⟨W6.heap.size, 0, none⟩) 1 1] 51)).drew).upd hu7 (by simp); have q7 : w7.cell? ⟨nb, 3, none⟩ = some (.slice none 0 0) := (by simpa using hB7.cell 3); have f7 := hB7.froz 3))
  all_goals
    have hU : Upd [nb] W6 (w7.setCell ⟨nb, 3, none⟩ (.slice (some ⟨g7, 0, none⟩) 1 c7)) := ((Upd.then (F := [nb]) (G := []) (Upd.drew (((Upd.refl _ W6).alloc (.cells #[.int .i64 0] 2)).alloc (.cells #[.slice (some ⟨W6.heap.size, 0, none⟩) 1 1] 51))) hu7 (by simp)).setCell (.inl (by simp)) _)
    have hBs := hB7.set 3 (.slice (some ⟨g7, 0, none⟩) 1 c7)
    have hown2 := own_upd hown7 ((Upd.refl [nb] w7).setCell (p := ⟨nb, 3, none⟩) (.inl (by simp)) (.slice (some ⟨g7, 0, none⟩) 1 c7)) (by rintro g ⟨⟩; simp; omega)
    have hV2 := hV7.far (p := ⟨nb, 3, none⟩) (by simp; omega) (.slice (some ⟨g7, 0, none⟩) 1 c7)
    have hs2 := (HS6.out.less (G := [nb]) (by simp)).upd hU
    have hr2 := HR6.out.upd hU (by simpa using hne)
    have hw2 := HW6.out.upd hU (by simpa using hbn)
    have e2 := hu06.then hU (by simp [hge])
    generalize w7.setCell ⟨nb, 3, none⟩ (.slice (some ⟨g7, 0, none⟩) 1 c7) = WZ at *
    simp at hBs
    have z0 := hBs.cell 0; have z1 := hBs.cell 1; have z2 := hBs.cell 2; have z3 := hBs.cell 3; have z4 := hBs.cell 4
    have r0 := hr2.cell 0; have r1 := hr2.cell 1; have r2 := hr2.cell 2; have r3 := hr2.cell 3; have r4 := hr2.cell 4
    have p0 := hr2.froz 0; have p1 := hr2.froz 1; have p2 := hr2.froz 2; have p3 := hr2.froz 3; have p4 := hr2.froz 4
    simp at z0 z1 z2 z3 z4 r0 r1 r2 r3 r4
    go_wp2_with fail
    rw [rounds_succ]
    go_wp2_with (go_at_call 58; refine (rcanon0 _ _ _ _ _ _ hw2).mono ?_; rintro e w' ⟨rfl, rfl⟩)
    refine wp_loop_rounds 1 ?_
    rw [rounds_succ]
    go_wp2_with fail
    have hfin := ((((hr2.set 0 (.int .i64 1)).set 1 (.slice (some ⟨g5, 0, none⟩) 1 c5)).set 2 (.int .i64 0)).set 3 (.slice (some ⟨g7, 0, none⟩) 1 c7)).set 4 (.slice none 0 0)
    simp at hfin
    have hU5 : Upd [rb] WZ (((((WZ.setCell ⟨rb, 0, none⟩ (.int .i64 1)).setCell ⟨rb, 1, none⟩ (.slice (some ⟨g5, 0, none⟩) 1 c5)).setCell ⟨rb, 2, none⟩ (.int .i64 0)).setCell ⟨rb, 3, none⟩ (.slice (some ⟨g7, 0, none⟩) 1 c7)).setCell ⟨rb, 4, none⟩ (.slice none 0 0)) :=
      ((((((Upd.refl [rb] WZ).setCell (.inl (by simp)) _).setCell (.inl (by simp)) _).setCell (.inl (by simp)) _).setCell (.inl (by simp)) _).setCell (.inl (by simp)) _)
    have c0 := hfin.cell 0; have c1 := hfin.cell 1; have c2 := hfin.cell 2; have c3 := hfin.cell 3; have c4 := hfin.cell 4
    simp only [List.getElem?_toArray, List.getElem?_cons_succ, List.getElem?_cons_zero] at c0 c1 c2 c3 c4
    generalize (((((WZ.setCell ⟨rb, 0, none⟩ (.int .i64 1)).setCell ⟨rb, 1, none⟩ (.slice (some ⟨g5, 0, none⟩) 1 c5)).setCell ⟨rb, 2, none⟩ (.int .i64 0)).setCell ⟨rb, 3, none⟩ (.slice (some ⟨g7, 0, none⟩) 1 c7)).setCell ⟨rb, 4, none⟩ (.slice none 0 0)) = WF at *
    refine bodyPost_ret (v := .agg #[.int .i64 1, .slice (some ⟨g5, 0, none⟩) 1 c5, .int .i64 0, .slice (some ⟨g7, 0, none⟩) 1 c7, .slice none 0 0]) (by simp [results, Tryz.results16, go_sem, c0, c1, c2, c3, c4]) rfl ?_
    refine ⟨_, c5, _, c7, some ⟨W6.heap.size, 0, none⟩, 1, rfl, ?_, ?_, ?_, e2.then hU5 (by simp [hge])⟩
    · exact ((HS6.out.upd (hU.mono (by simp))).upd (hU5.mono (by simp))).less (by simp)
    · exact ((Sl.of_own [rb] hown2 (by simp; omega)).upd hU5).less (by simp)
    · exact ((Sl.of_blk (F := [rb]) hV2 (by simp; omega)).upd hU5).less (by simp)
end Go.Proofs.YtmmkeaokhbmgoaaGreatDoor
