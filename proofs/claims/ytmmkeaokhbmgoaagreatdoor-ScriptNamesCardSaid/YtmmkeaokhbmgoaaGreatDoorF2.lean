/- The document's state of that network: r12.New. -/
import Derived.Test.YtmmkeaokhbmgoaaGreatDoorF1
import Derived.Deep.RegionLaw
import Derived.Deep.Cut
namespace Go.Proofs.YtmmkeaokhbmgoaaGreatDoor
open Go.RowKit

theorem ty_ints2 : SliceTy Tryz.prog 28 27 (.slice none 0 0) 1 24 := ⟨Tryz.underlying28, info_parts (by kernel_rfl), rfl, by decide⟩
theorem ty_bools : SliceTy Tryz.prog 29 4 (.bool false) 1 1 := ⟨Tryz.underlying29, info_parts (by kernel_rfl), rfl, by decide⟩

def RNewPost (w : World) (e : Ending) (w' : World) : Prop :=
  ∃ S sc d dc g gc u uc, e = .returned (.agg #[.int .i64 1, .slice S 1 sc, .int .i64 0, .slice d 1 dc, .slice g 1 gc, .slice u 1 uc, .slice none 0 0, .slice none 0 0]) ∧ Upd [] w w'

set_option maxRecDepth 100000 in
set_option maxHeartbeats 1000000 in
theorem rnew0 (S U V : Option Addr) (sc uc vc : Nat) (w : World) (hS : Sl w [] 1 S 1 [intV 1]) (hU : Sl w [] 1 U 1 [.slice V 1 vc]) (hV : Sl w [] 1 V 1 [intV 0]) :
    Calls Tryz.prog 15 #[.agg #[.int .i64 1, .slice S 1 sc, .int .i64 0, .slice U 1 uc, .slice none 0 0]] w (RNewPost w) := by
  have HS := Lib.hid hS; clear hS
  have HU := Lib.hid hU; clear hU
  have HV := Lib.hid hV; clear hV
  go_enter Tryz.func15, Tryz.ntmps15
  go_wp2_with fail
  obtain ⟨W, hW⟩ : ∃ W, W = (((w.alloc (.cells #[.int .i64 1, .slice S 1 sc, .int .i64 0, .slice U 1 uc, .slice none 0 0] 62)).alloc (.cells #[.int .i64 0, .slice none 0 0, .int .i64 0, .slice none 0 0, .slice none 0 0, .slice none 0 0, .slice none 0 0, .slice none 0 0] 34)).alloc (.cells #[.int .i64 1, .slice S 1 sc, .int .i64 0, .slice none 0 0, .slice none 0 0, .slice none 0 0, .slice none 0 0, .slice none 0 0] 34)) := ⟨_, rfl⟩
  rw [← hW]
  have hu : Upd [] w W := by rw [hW]; exact (((Upd.refl _ _).alloc _).alloc _).alloc _
  have hsS := HS.out.upd hu
  have hsU := (HU.out.more (G := [w.heap.size + 1 + 1]) (by simp; omega)).upd (hu.mono (by simp))
  have hsV := (HV.out.more (G := [w.heap.size + 1 + 1]) (by simp; omega)).upd (hu.mono (by simp))
  obtain ⟨sb, hsb⟩ : ∃ sb, sb = w.heap.size + 1 + 1 := ⟨_, rfl⟩
  obtain ⟨rb, hrb⟩ : ∃ rb, rb = w.heap.size + 1 := ⟨_, rfl⟩
  obtain ⟨nb, hnb⟩ : ∃ nb, nb = w.heap.size := ⟨_, rfl⟩
  have hBn : Blk W nb 62 #[.int .i64 1, .slice S 1 sc, .int .i64 0, .slice U 1 uc, .slice none 0 0] := by rw [hW, hnb]; exact ((Blk.new _ _ _).alloc _).alloc _
  have hBr : Blk W rb 34 #[.int .i64 0, .slice none 0 0, .int .i64 0, .slice none 0 0, .slice none 0 0, .slice none 0 0, .slice none 0 0, .slice none 0 0] := by
    rw [hW, hrb]
    have := Blk.new (w.alloc (.cells #[.int .i64 1, .slice S 1 sc, .int .i64 0, .slice U 1 uc, .slice none 0 0] 62)) 34 #[.int .i64 0, .slice none 0 0, .int .i64 0, .slice none 0 0, .slice none 0 0, .slice none 0 0, .slice none 0 0, .slice none 0 0]
    rw [World.size_alloc] at this
    exact this.alloc _
  have hBs : Blk W sb 34 #[.int .i64 1, .slice S 1 sc, .int .i64 0, .slice none 0 0, .slice none 0 0, .slice none 0 0, .slice none 0 0, .slice none 0 0] := by
    rw [hW, hsb]
    have := Blk.new ((w.alloc (.cells #[.int .i64 1, .slice S 1 sc, .int .i64 0, .slice U 1 uc, .slice none 0 0] 62)).alloc (.cells #[.int .i64 0, .slice none 0 0, .int .i64 0, .slice none 0 0, .slice none 0 0, .slice none 0 0, .slice none 0 0, .slice none 0 0] 34)) 34 #[.int .i64 1, .slice S 1 sc, .int .i64 0, .slice none 0 0, .slice none 0 0, .slice none 0 0, .slice none 0 0, .slice none 0 0]
    rwa [World.size_alloc, World.size_alloc] at this
  rw [← hsb] at hsU hsV
  rw [← hsb, ← hrb, ← hnb]
  have hge : w.heap.size ≤ nb ∧ w.heap.size ≤ rb ∧ w.heap.size ≤ sb := by omega
  have hne : nb ≠ rb ∧ nb ≠ sb ∧ rb ≠ sb := by omega
  clear hW hsb hrb hnb HS HU HV
  obtain ⟨ad, rfl, hc0⟩ := hsS.get (k := 0) (by omega)
  rw [add_zero'] at hc0
  simp [intV] at hc0
  have HBN := Lib.hid hBn
  have HBR := Lib.hid hBr
  have HBS := Lib.hid hBs
  have HSU := Lib.hid hsU
  have HSV := Lib.hid hsV
  clear hBn hBr hBs hsS hsU hsV
  refine wp_loop_rounds 2 ?_
  rw [rounds_succ]
  go_wp2_with fail
  refine wp_loop_rounds 2 ?_
  rw [rounds_succ]
  go_wp2_with (at_builtin; go_must (refine wpList_append_sl rfl _ _ rfl ty_ints W.heap.size (.slice none 0 0) 0 [] rfl (World.ownsRow_nil _ _ _ _) [] _ 1 1 [.int .i64 0] rfl (Sl.of_blk (cs := #[.int .i64 0]) (t := 3) (by exact Blk.new W _ _) (by simp)) (by simp [Value.oneCell']) (by decide) (by decide) (by simp) ?_); intro v5 w5 hown5 hg5 hv5 hn5; obtain ⟨g5, c5, rfl, hg5', hl5, hc5⟩ := own_some hown5 (by decide); have hu5 : Upd [] W w5 := (((Upd.refl [] W).alloc _).grown hg5 (fun k hk => by cases hk)))
  rw [rounds_succ]
  have hB5 := HBS.out.upd hu5 (by simp)
  have q3 : w5.cell? ⟨sb, 3, none⟩ = some (.slice none 0 0) := by simpa using hB5.cell 3
  have hl5' : ∀ x, x = sb → x < w5.heap.size := by rintro x rfl; exact hB5.lt
  go_upto_region 11 with (at_builtin; refine wpList_append_sl rfl _ _ rfl ty_ints2 w5.heap.size (.slice none 0 0) 0 [] rfl (World.ownsRow_nil _ _ _ _) [] _ 1 1 [.slice (some ⟨g5, 0, none⟩) 1 c5] rfl (Sl.of_blk (cs := #[.slice (some ⟨g5, 0, none⟩) 1 c5]) (t := 27) (by exact Blk.new w5 _ _) (by simp)) (by simp [Value.oneCell']) (by decide) (by decide) (by simp) ?_; intro v6 w6 hown6 hg6 hv6 hn6; obtain ⟨g6, c6, rfl, hg6', hl6, hc6⟩ := own_some hown6 (by decide); have hu6 : Upd [] w5 w6 := (((Upd.refl [] w5).alloc _).grown hg6 (fun k hk => by cases hk)); have hB6 := hB5.upd hu6 (by simp); have q3' : w6.cell? ⟨sb, 3, none⟩ = some (.slice none 0 0) := (by simpa using hB6.cell 3); have f3 := hB6.froz 3)
  have hB6s := hB6.set 3 (.slice (some ⟨g6, 0, none⟩) 1 c6)
  have hu6s : Upd [sb] w5 (w6.setCell ⟨sb, 3, none⟩ (.slice (some ⟨g6, 0, none⟩) 1 c6)) := (hu6.mono (by simp)).setCell (.inl (by simp)) _
  generalize w6.setCell ⟨sb, 3, none⟩ (.slice (some ⟨g6, 0, none⟩) 1 c6) = W6 at *
  simp at hB6s
  have q4 : W6.cell? ⟨sb, 4, none⟩ = some (.slice none 0 0) := by simpa using hB6s.cell 4
  clear q3 q3' f3 hn6 hv6 hg6 hown6 hu6 hB6 hown5 hg5 hv5 hn5
  go_upto_region 12 with (at_builtin; refine wpList_append_sl rfl _ _ rfl ty_bools W6.heap.size (.slice none 0 0) 0 [] rfl (World.ownsRow_nil _ _ _ _) [] _ 1 1 [.bool false] rfl (Sl.of_blk (cs := #[.bool false]) (t := 4) (by exact Blk.new W6 _ _) (by simp)) (by simp [Value.oneCell']) (by decide) (by decide) (by simp) ?_; intro v7 w7 hown7 hg7 hv7 hn7; obtain ⟨g7, c7, rfl, hg7', hl7, hc7⟩ := own_some hown7 (by decide); have hu7 : Upd [] W6 w7 := (((Upd.refl [] W6).alloc _).grown hg7 (fun k hk => by cases hk)); have hB7 := hB6s.upd hu7 (by simp); have q4' : w7.cell? ⟨sb, 4, none⟩ = some (.slice none 0 0) := (by simpa using hB7.cell 4); have f4 := hB7.froz 4)
  have hB7s := hB7.set 4 (.slice (some ⟨g7, 0, none⟩) 1 c7)
  have hu7s : Upd [sb] W6 (w7.setCell ⟨sb, 4, none⟩ (.slice (some ⟨g7, 0, none⟩) 1 c7)) := (hu7.mono (by simp)).setCell (.inl (by simp)) _
  generalize w7.setCell ⟨sb, 4, none⟩ (.slice (some ⟨g7, 0, none⟩) 1 c7) = W7 at *
  simp at hB7s
  have hup : Upd [sb] W W7 := ((hu5.mono (by simp)).trans hu6s).trans hu7s
  have hw7 : Upd [] w W7 := hu.then hup (by simp [hge])
  clear q4 q4' f4 hn7 hv7 hg7 hown7 hu7 hB7 hu6s hu7s hB6s hl6 hg6' hc6 hl7 hg7' hc7 hl5' hB5
  obtain ⟨ug, uo, rfl, hug, hul, huc⟩ := HSU.out.spot (by decide) (by decide)
  have u0 := huc 0 _ rfl
  have n3 := HBN.out.cell 3
  simp at u0 n3
  have u7 := hup.cell u0 (by simpa using hug)
  have n7 := hup.cell n3 (by simpa using hne.2.1)
  have s5 := hB7s.cell 5
  have s5' : ∀ o, (W7.alloc o).cell? ⟨sb, 5, none⟩ = some (.slice none 0 0) := fun o => by simpa using (hB7s.alloc o).cell 5
  simp at s5
  have hV7 := (HSV.out.upd hup).alloc (.cells #[] 2)
  have HV7 := Lib.hid hV7
  have HB7 := Lib.hid hB7s
  clear hV7 hB7s u0 n3 huc hul HSU HSV HBS hc0
  have n7a : ∀ o, (W7.alloc o).cell? ⟨nb, 3, none⟩ = some (.slice (some ⟨ug, uo, none⟩) 1 uc) := fun o => ((Upd.refl [] W7).alloc o).cell n7 (by simp)
  have u7a : ∀ o, (W7.alloc o).cell? ⟨ug, uo, none⟩ = some (.slice V 1 vc) := fun o => ((Upd.refl [] W7).alloc o).cell u7 (by simp)
  go_region_law (first | (refine step_append_sl rfl (.tmp 47) (.tmp 52) rfl ty_int64s W7.heap.size (.slice (some ⟨W7.heap.size, 0, none⟩) 0 0) 0 [] rfl (own_of_blk (Blk.new W7 2 #[]) W7.heap.size 1 0 (Nat.le_refl _) rfl (by decide)) [sb] V 1 vc [intV 0] rfl HV7.out (by simp [intV, Value.oneCell']) (by decide) (by decide) (by simp) ?_; intro v8 w8 hown8 hg8 hv8 hn8; obtain ⟨g8, c8, rfl, hg8', hl8, hc8⟩ := own_some hown8 (by decide); have hu8 : Upd [] W7 w8 := Upd.then (F := []) (G := [W7.heap.size]) (Upd.drew ((Upd.refl [] W7).alloc (.cells #[] 2))) ((Upd.refl _ _).grown hg8 (fun x hx => .inl (by cases hx; simp))) (by simp); have hu8s : Upd [sb] W7 w8 := hu8.mono (by simp); have hB8 := HB7.out.upd hu8 (by simp); have s8 : w8.cell? ⟨sb, 5, none⟩ = some (.slice none 0 0) := (by simpa using hB8.cell 5); have n8 := hu8.cell n7 (by simp); have u8 := hu8.cell u7 (by simp); have n8a : ∀ o, (w8.alloc o).cell? ⟨nb, 3, none⟩ = some (.slice (some ⟨ug, uo, none⟩) 1 uc) := (fun o => ((Upd.refl [] w8).alloc o).cell n8 (by simp)); have u8a : ∀ o, (w8.alloc o).cell? ⟨ug, uo, none⟩ = some (.slice V 1 vc) := (fun o => ((Upd.refl [] w8).alloc o).cell u8 (by simp)); have s8' : ∀ o, (w8.alloc o).cell? ⟨sb, 5, none⟩ = some (.slice none 0 0) := (fun o => by simpa using (hB8.alloc o).cell 5)) | (refine step_append_sl rfl (.tmp 46) (.tmp 54) rfl ty_rows w8.heap.size (.slice none 0 0) 0 [] rfl (World.ownsRow_nil _ _ _ _) [] _ 1 1 [.slice (some ⟨g8, 0, none⟩) 1 c8] rfl (Sl.of_blk (cs := #[.slice (some ⟨g8, 0, none⟩) 1 c8]) (t := 51) (by exact Blk.new w8 _ _) (by simp)) (by simp [Value.oneCell']) (by decide) (by decide) (by simp) ?_; intro v9 w9 hown9 hg9 hv9 hn9; obtain ⟨g9, c9, rfl, hg9', hl9, hc9⟩ := own_some hown9 (by decide); have hu9 : Upd [] w8 w9 := (((Upd.refl [] w8).alloc _).grown hg9 (fun k hk => by cases hk)); have hu9s : Upd [sb] W7 w9 := hu8s.then_nil hu9; have hB9 := hB8.upd hu9 (by simp); have s9 : w9.cell? ⟨sb, 5, none⟩ = some (.slice none 0 0) := (by simpa using hB9.cell 5); have f9 := hB9.froz 5))
  all_goals
    have hB9s := hB9.set 5 (.slice (some ⟨g9, 0, none⟩) 1 c9)
    have hu9f := hu9s.setCell (p := ⟨sb, 5, none⟩) (.inl (by simp)) (.slice (some ⟨g9, 0, none⟩) 1 c9)
    have hr9 := (HBR.out.upd hup (by simpa using hne.2.2)).upd hu9f (by simpa using hne.2.2)
    have hn9c := (HBN.out.upd hup (by simpa using hne.2.1)).upd hu9f (by simpa using hne.2.1)
    have e9 := hw7.then hu9f (by simp [hge])
    generalize w9.setCell ⟨sb, 5, none⟩ (.slice (some ⟨g9, 0, none⟩) 1 c9) = W9 at *
    simp at hB9s
    have z0 := hB9s.cell 0; have z1 := hB9s.cell 1; have z2 := hB9s.cell 2; have z3 := hB9s.cell 3; have z4 := hB9s.cell 4; have z5 := hB9s.cell 5; have z6 := hB9s.cell 6; have z7 := hB9s.cell 7
    have r0 := hr9.cell 0; have r1 := hr9.cell 1; have r2 := hr9.cell 2; have r3 := hr9.cell 3; have r4 := hr9.cell 4; have r5 := hr9.cell 5; have r6 := hr9.cell 6; have r7 := hr9.cell 7
    have p0 := hr9.froz 0; have p1 := hr9.froz 1; have p2 := hr9.froz 2; have p3 := hr9.froz 3; have p4 := hr9.froz 4; have p5 := hr9.froz 5; have p6 := hr9.froz 6; have p7 := hr9.froz 7
    have m4 := hn9c.cell 4
    simp at z0 z1 z2 z3 z4 z5 z6 z7 r0 r1 r2 r3 r4 r5 r6 r7 m4
    go_wp2_with fail
    rw [rounds_succ]
    go_wp2_with fail
    refine wp_loop_rounds 1 ?_
    rw [rounds_succ]
    go_wp2_with fail
    have hfin := ((((((((hr9.set 0 (.int .i64 1)).set 1 (.slice (some ad) 1 sc)).set 2 (.int .i64 0)).set 3 (.slice (some ⟨g6, 0, none⟩) 1 c6)).set 4 (.slice (some ⟨g7, 0, none⟩) 1 c7)).set 5 (.slice (some ⟨g9, 0, none⟩) 1 c9)).set 6 (.slice none 0 0)).set 7 (.slice none 0 0))
    simp at hfin
    have hU5 : Upd [rb] W9 ((((((((W9.setCell ⟨rb, 0, none⟩ (.int .i64 1)).setCell ⟨rb, 1, none⟩ (.slice (some ad) 1 sc)).setCell ⟨rb, 2, none⟩ (.int .i64 0)).setCell ⟨rb, 3, none⟩ (.slice (some ⟨g6, 0, none⟩) 1 c6)).setCell ⟨rb, 4, none⟩ (.slice (some ⟨g7, 0, none⟩) 1 c7)).setCell ⟨rb, 5, none⟩ (.slice (some ⟨g9, 0, none⟩) 1 c9)).setCell ⟨rb, 6, none⟩ (.slice none 0 0)).setCell ⟨rb, 7, none⟩ (.slice none 0 0)) := (((((((((Upd.refl [rb] W9).setCell (p := ⟨rb, 0, none⟩) (.inl (by simp)) (.int .i64 1)).setCell (p := ⟨rb, 1, none⟩) (.inl (by simp)) (.slice (some ad) 1 sc)).setCell (p := ⟨rb, 2, none⟩) (.inl (by simp)) (.int .i64 0)).setCell (p := ⟨rb, 3, none⟩) (.inl (by simp)) (.slice (some ⟨g6, 0, none⟩) 1 c6)).setCell (p := ⟨rb, 4, none⟩) (.inl (by simp)) (.slice (some ⟨g7, 0, none⟩) 1 c7)).setCell (p := ⟨rb, 5, none⟩) (.inl (by simp)) (.slice (some ⟨g9, 0, none⟩) 1 c9)).setCell (p := ⟨rb, 6, none⟩) (.inl (by simp)) (.slice none 0 0)).setCell (p := ⟨rb, 7, none⟩) (.inl (by simp)) (.slice none 0 0))
    have c0' := hfin.cell 0; have c1' := hfin.cell 1; have c2' := hfin.cell 2; have c3' := hfin.cell 3; have c4' := hfin.cell 4; have c5' := hfin.cell 5; have c6' := hfin.cell 6; have c7' := hfin.cell 7
    simp only [List.getElem?_toArray, List.getElem?_cons_succ, List.getElem?_cons_zero] at c0' c1' c2' c3' c4' c5' c6' c7'
    generalize ((((((((W9.setCell ⟨rb, 0, none⟩ (.int .i64 1)).setCell ⟨rb, 1, none⟩ (.slice (some ad) 1 sc)).setCell ⟨rb, 2, none⟩ (.int .i64 0)).setCell ⟨rb, 3, none⟩ (.slice (some ⟨g6, 0, none⟩) 1 c6)).setCell ⟨rb, 4, none⟩ (.slice (some ⟨g7, 0, none⟩) 1 c7)).setCell ⟨rb, 5, none⟩ (.slice (some ⟨g9, 0, none⟩) 1 c9)).setCell ⟨rb, 6, none⟩ (.slice none 0 0)).setCell ⟨rb, 7, none⟩ (.slice none 0 0)) = WF at *
    refine bodyPost_ret (v := .agg #[.int .i64 1, .slice (some ad) 1 sc, .int .i64 0, .slice (some ⟨g6, 0, none⟩) 1 c6, .slice (some ⟨g7, 0, none⟩) 1 c7, .slice (some ⟨g9, 0, none⟩) 1 c9, .slice none 0 0, .slice none 0 0]) (by simp [results, Tryz.results15, go_sem, c0', c1', c2', c3', c4', c5', c6', c7']) rfl ?_
    exact ⟨_, sc, _, c6, _, c7, _, c9, rfl, e9.then hU5 (by simp [hge])⟩
end Go.Proofs.YtmmkeaokhbmgoaaGreatDoor
