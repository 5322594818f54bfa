/- made at the text of ScriptNames. -/
import Derived.Test.YtmmkeaokhbmgoaaGreatDoorF2
import Derived.Test.YtmmkeaokhbmgoaaGreatDoorQ4
namespace Go.Proofs.YtmmkeaokhbmgoaaGreatDoor
open Go.RowKit

def MadePost (w : World) (e : Ending) (w' : World) : Prop :=
  ∃ sb nb tb vc V, (∃ S sc d dc g gc u uc, e = .returned (.tuple #[.pointer (some ⟨sb, 0, none⟩), .agg #[.int .i64 1, .slice S 1 sc, .int .i64 0, .slice d 1 dc, .slice g 1 gc, .slice u 1 uc, .slice none 0 0, .slice none 0 0], .bool true])) ∧ St0 w' sb nb tb vc V [[0]] 1 (stamp0 [0, 0, 0, 0, 0, 0]) ∧
    Nt w' (sb :: tb :: (vc.ownBlock.toList ++ V.ownBlock.toList)) nb 1 0 [1] [[0]] none 0 0 ∧ Upd [] w w'

set_option maxRecDepth 100000 in
set_option maxHeartbeats 1000000 in
theorem made0 (A : Option Addr) (c : Nat) (w : World) (hs : Sl w [] 1 A 11 (L0.map byteV)) (hc : 11 ≤ c) :
    Calls Tryz.prog 5 #[.slice A 11 c] w (MadePost w) := by
  obtain ⟨ad, rfl, hcs⟩ := hs.2 (by decide)
  have HS := Lib.hid hs; clear hs hcs
  go_enter Tryz.func5, Tryz.ntmps5
  go_wp2_with fail
  obtain ⟨W, hW⟩ : ∃ W, W = (w.alloc (.cells #[.int .i64 0, .slice none 0 0, .int .i64 0, .slice none 0 0, .slice none 0 0, .slice none 0 0, .slice none 0 0, .slice none 0 0] 34)) := ⟨_, rfl⟩
  rw [← hW]
  have hBr : Blk W w.heap.size 34 #[.int .i64 0, .slice none 0 0, .int .i64 0, .slice none 0 0, .slice none 0 0, .slice none 0 0, .slice none 0 0, .slice none 0 0] := by rw [hW]; exact Blk.new _ _ _
  have hu : Upd [] w W := by rw [hW]; exact (Upd.refl _ _).alloc _
  have hsW := HS.out.upd hu
  obtain ⟨rb, hrb⟩ : ∃ rb, rb = w.heap.size := ⟨_, rfl⟩
  rw [← hrb] at hBr ⊢
  have hge : w.heap.size ≤ rb := by omega
  clear hW hrb
  refine (cloneBytes_any [] (some ad) 11 c _ W hsW (bytes_one _) (by decide)).mono ?_
  rintro e w1 ⟨v1, rfl, hown1, hu1⟩
  obtain ⟨g1, c1, rfl, hg1, hl1, hc1⟩ := own_some hown1 (by decide)
  have hs1 := Sl.of_own [] hown1 (by simp)
  go_wp2_with fail
  refine (read0 _ c1 w1 hs1).mono ?_
  rintro e w2 ⟨fb, A2, c2, rfl, hfb, hBf2, hs2, hc2, hu2⟩
  go_wp2_with fail
  refine (rread0 _ c1 w2 (hs1.upd hu2) hc1).mono ?_
  rintro e w3 ⟨xb, A3, c3, rfl, hxb, hBx3, hs3, hc3, hu3⟩
  have x1 := hBx3.cell 1
  simp at x1
  go_wp2_with fail
  refine (netOf0 fb _ A2 c2 w3 (hBf2.upd hu3 (by simp)) (hs2.upd hu3)).mono ?_
  rintro e w4 ⟨nb, fb4, A4, c4, U, uc, V, vc, rfl, hnb, hfb4, hBn4, hBf4, hs4, hc4, hU4, huc4, hV4, hvc4, hu4⟩
  have hN4 : Nt w4 (List.range w3.heap.size) nb 1 0 [1] [[0]] none 0 0 := ⟨⟨fb4, _, A4, c4, _, U, uc, [.slice V 1 vc], by simpa using hnb, by simpa using hfb4, hBn4, hBf4, hs4, hU4, fun k hk => by
    have : k = 0 := by simp at hk; omega
    subst this
    exact ⟨V, vc, rfl, hV4⟩⟩, rfl, fun k hk => by
    have : k = 0 := by simp at hk; omega
    subst this; rfl, by simp⟩
  go_wp2_with fail
  refine (stateNew w4 nb 1 0 [1] [[0]] none 0 (hN4.more (by simp)) (by simp [cellsOf])).mono ?_
  rintro e w5 ⟨sb, tb, vc5, V5, rfl, hS5, hsb, htb, hvc5, hV5, hu5⟩
  go_wp2_with fail
  refine (rof0 xb _ A3 c3 w5 ((hBx3.upd hu4 (by simp)).upd hu5 (by simp)) ((hs3.upd hu4).upd hu5)).mono ?_
  rintro e w6 ⟨S6, sc6, U6, uc6, V6, vc6, rfl, hS6, hU6, hV6, hu6⟩
  go_wp2_with fail
  refine (rnew0 S6 U6 V6 sc6 uc6 vc6 w6 hS6 hU6 hV6).mono ?_
  rintro e w7 ⟨S7, sc7, d7, dc7, g7, gc7, u7, uc7, rfl, hu7⟩
  have hul := ((((((hu1.then_nil hu2).then_nil hu3).then_nil hu4).then_nil hu5).then_nil hu6).then_nil hu7)
  have hBr7 := hBr.upd hul (by simp)
  have r0 := hBr7.cell 0; have r1 := hBr7.cell 1; have r2 := hBr7.cell 2; have r3 := hBr7.cell 3; have r4 := hBr7.cell 4; have r5 := hBr7.cell 5; have r6 := hBr7.cell 6; have r7 := hBr7.cell 7
  have p0 := hBr7.froz 0; have p1 := hBr7.froz 1; have p2 := hBr7.froz 2; have p3 := hBr7.froz 3; have p4 := hBr7.froz 4; have p5 := hBr7.froz 5; have p6 := hBr7.froz 6; have p7 := hBr7.froz 7
  simp at r0 r1 r2 r3 r4 r5 r6 r7
  have HS5 := Lib.hid hS5
  clear hS5
  go_wp2_with fail
  have hfin := ((((((((hBr7.set 0 (.int .i64 1)).set 1 (.slice S7 1 sc7)).set 2 (.int .i64 0)).set 3 (.slice d7 1 dc7)).set 4 (.slice g7 1 gc7)).set 5 (.slice u7 1 uc7)).set 6 (.slice none 0 0)).set 7 (.slice none 0 0))
  simp at hfin
  have hU5 : Upd [rb] w7 ((((((((w7.setCell ⟨rb, 0, none⟩ (.int .i64 1)).setCell ⟨rb, 1, none⟩ (.slice S7 1 sc7)).setCell ⟨rb, 2, none⟩ (.int .i64 0)).setCell ⟨rb, 3, none⟩ (.slice d7 1 dc7)).setCell ⟨rb, 4, none⟩ (.slice g7 1 gc7)).setCell ⟨rb, 5, none⟩ (.slice u7 1 uc7)).setCell ⟨rb, 6, none⟩ (.slice none 0 0)).setCell ⟨rb, 7, none⟩ (.slice none 0 0)) := (((((((((Upd.refl [rb] w7).setCell (p := ⟨rb, 0, none⟩) (.inl (by simp)) (.int .i64 1)).setCell (p := ⟨rb, 1, none⟩) (.inl (by simp)) (.slice S7 1 sc7)).setCell (p := ⟨rb, 2, none⟩) (.inl (by simp)) (.int .i64 0)).setCell (p := ⟨rb, 3, none⟩) (.inl (by simp)) (.slice d7 1 dc7)).setCell (p := ⟨rb, 4, none⟩) (.inl (by simp)) (.slice g7 1 gc7)).setCell (p := ⟨rb, 5, none⟩) (.inl (by simp)) (.slice u7 1 uc7)).setCell (p := ⟨rb, 6, none⟩) (.inl (by simp)) (.slice none 0 0)).setCell (p := ⟨rb, 7, none⟩) (.inl (by simp)) (.slice none 0 0))
  have c0' := hfin.cell 0; have c1' := hfin.cell 1; have c2' := hfin.cell 2; have c3' := hfin.cell 3; have c4' := hfin.cell 4; have c5' := hfin.cell 5; have c6' := hfin.cell 6; have c7' := hfin.cell 7
  simp only [List.getElem?_toArray, List.getElem?_cons_succ, List.getElem?_cons_zero] at c0' c1' c2' c3' c4' c5' c6' c7'
  generalize ((((((((w7.setCell ⟨rb, 0, none⟩ (.int .i64 1)).setCell ⟨rb, 1, none⟩ (.slice S7 1 sc7)).setCell ⟨rb, 2, none⟩ (.int .i64 0)).setCell ⟨rb, 3, none⟩ (.slice d7 1 dc7)).setCell ⟨rb, 4, none⟩ (.slice g7 1 gc7)).setCell ⟨rb, 5, none⟩ (.slice u7 1 uc7)).setCell ⟨rb, 6, none⟩ (.slice none 0 0)).setCell ⟨rb, 7, none⟩ (.slice none 0 0)) = WF at *
  refine bodyPost_ret (v := .tuple #[.pointer (some ⟨sb, 0, none⟩), .agg #[.int .i64 1, .slice S7 1 sc7, .int .i64 0, .slice d7 1 dc7, .slice g7 1 gc7, .slice u7 1 uc7, .slice none 0 0, .slice none 0 0], .bool true]) (by simp [results, Tryz.results5, go_sem, c0', c1', c2', c3', c4', c5', c6', c7']) rfl ?_
  have hrl : rb < w4.heap.size := by
    have := hBr.lt; have := (((hu1.then_nil hu2).then_nil hu3).then_nil hu4).size; omega
  have hu67 := hu6.then_nil hu7
  have hS7 : St0 WF sb nb tb vc5 V5 [[0]] 1 (stamp0 [0, 0, 0, 0, 0, 0]) := (HS5.out.fresh hu67).upd hU5 (by simp; omega) (by simp; omega) (fun g hg => by have := hvc5 g hg; simp; omega) (fun g hg => by have := hV5 g hg; simp; omega)
  have hN7 : Nt WF (sb :: tb :: (vc5.ownBlock.toList ++ V5.ownBlock.toList)) nb 1 0 [1] [[0]] none 0 0 := by
    have hrl3 : rb < w3.heap.size := by
      have := hBr.lt; have := ((hu1.then_nil hu2).then_nil hu3).size; omega
    have h1 := hN4.more (G := List.range w3.heap.size ++ (sb :: tb :: (vc5.ownBlock.toList ++ V5.ownBlock.toList))) (by
      intro x hx
      simp only [List.mem_append, List.mem_cons, Option.mem_toList] at hx
      rcases hx with h | rfl | rfl | h | h
      · exact .inl h
      · exact .inr hsb
      · exact .inr htb
      · exact .inr (hvc5 x h)
      · exact .inr (hV5 x h))
    refine ((h1.upd ((hu5.then_nil hu67).mono (by simp))).upd (hU5.mono (by simp; exact .inl hrl3))).more (by intro x hx; exact .inl (List.mem_append_right _ hx))
  exact ⟨sb, nb, tb, vc5, V5, ⟨S7, sc7, d7, dc7, g7, gc7, u7, uc7, rfl⟩, hS7, hN7, (hu.then_nil hul).then hU5 (by simp [hge])⟩
end Go.Proofs.YtmmkeaokhbmgoaaGreatDoor
