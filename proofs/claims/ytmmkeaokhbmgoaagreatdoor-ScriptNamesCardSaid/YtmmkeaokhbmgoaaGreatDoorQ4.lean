/- The reference's Read of the one text that ScriptNames reads. -/
import Derived.Test.YtmmkeaokhbmgoaaGreatDoorQ3
import Derived.Test.YtmmkeaokhbmgoaaGreatDoorR1
import Derived.Test.YtmmkeaokhbmgoaaGreatDoorS8
namespace Go.Proofs.YtmmkeaokhbmgoaaGreatDoor
open Go.RowKit
theorem l0_words : wordsFrom L0 0 [] false = ([([116], 0), ([49], 2), ([49], 4), ([48], 6), ([49], 8), ([49], 10)], -1) := by
  simp [wordsFrom, L0, addByte, btB, inB]
def xr0 (l : List Wd) : Xr := ⟨l, 11, 4, 0, 0, 0, 0, 0⟩
theorem x0_w : xrWord (xr0 [([116], 0), ([49], 2), ([49], 4), ([48], 6), ([49], 8), ([49], 10)]) = (([116], 0), xr0 [([49], 2), ([49], 4), ([48], 6), ([49], 8), ([49], 10)]) := by simp [xrWord, xr0]
theorem x0_n1 : xrNumber (xr0 [([49], 2), ([49], 4), ([48], 6), ([49], 8), ([49], 10)]) 1 4611686018427387904 = (1, 2, xr0 [([49], 4), ([48], 6), ([49], 8), ([49], 10)]) := by simp [xrNumber, xrWord, xr0, readN, digs]
theorem x0_n2 : xrNumber (xr0 [([49], 4), ([48], 6), ([49], 8), ([49], 10)]) 1 4611686018427387904 = (1, 4, xr0 [([48], 6), ([49], 8), ([49], 10)]) := by simp [xrNumber, xrWord, xr0, readN, digs]
theorem x0_n3 : xrNumber (xr0 [([48], 6), ([49], 8), ([49], 10)]) 0 4611686018427387904 = (0, 6, xr0 [([49], 8), ([49], 10)]) := by simp [xrNumber, xrWord, xr0, readN, digs]
theorem x0_n4 : xrNumber (xr0 [([49], 8), ([49], 10)]) 1 4611686018427387904 = (1, 8, xr0 [([49], 10)]) := by simp [xrNumber, xrWord, xr0, readN, digs]
theorem x0_n5 : xrNumber (xr0 [([49], 10)]) 1 1 = (1, 10, xr0 []) := by simp [xrNumber, xrWord, xr0, readN, digs]
theorem xr0_large (l : List Wd) (p : Int) : xrLarge (xr0 l) false p = xr0 l := by simp [xrLarge]
theorem xr0_cells {w : World} {b : Nat} {t : TypeId} {G : List Nat} {l : List Wd} {sh : Value} (h : XrAt w b t G (xr0 l) sh) :
    (∃ A c, w.cell? ⟨b, 0, none⟩ = some (.slice A l.length c)) ∧ w.cell? ⟨b, 3, none⟩ = some (.int .i64 0) ∧ w.cell? ⟨b, 5, none⟩ = some (.int .i64 0) := by
  obtain ⟨⟨A, c, hB, _⟩, _⟩ := h
  have h0 := hB.cell 0; have h3 := hB.cell 3; have h5 := hB.cell 5
  simp [xr0] at h0 h3 h5
  exact ⟨⟨A, c, h0⟩, h3, h5⟩
def RRead0Post (w : World) (e : Ending) (w' : World) : Prop :=
  ∃ b A c, e = .returned (.tuple #[.pointer (some ⟨b, 0, none⟩), .int .i64 11, .int .i64 0]) ∧ w.heap.size ≤ b ∧
    Blk w' b 54 #[.string ⟨[116].toArray⟩, .int .i64 1, .slice A 1 c, .slice none 0 0] ∧ Sl w' [] 1 A 1 [intV 1] ∧ 1 ≤ c ∧ Upd [] w w'

set_option maxRecDepth 100000 in
set_option maxHeartbeats 4000000 in
theorem rread0 (A : Option Addr) (c : Nat) (w : World) (hs : Sl w [] 1 A 11 (L0.map byteV)) (hc11 : 11 ≤ c) :
    Calls Tryz.prog 12 #[.slice A 11 c] w (RRead0Post w) := by
  have hws := words_any A L0 c w hs (by decide) hc11
  unfold WordsPost at hws
  rw [l0_words] at hws
  have HWS := Lib.hid hws; clear hws
  go_enter Tryz.func12, Tryz.ntmps12
  go_wp2_with fail
  refine HWS.out.mono ?_
  rintro e w1 ⟨v1, rfl, hown1, hu1⟩
  obtain ⟨A1, c1, rfl, hc1⟩ := own_form hown1
  have hW1 := hu1.size
  obtain ⟨br, hbr⟩ : ∃ br, br = w1.heap.size := ⟨_, rfl⟩
  have hb1 : w.heap.size ≤ br := by omega
  obtain ⟨w2, hw2⟩ : ∃ w2, w2 = (w1.alloc (.cells #[.slice A1 6 c1, .int .i64 11, .int .i64 4, .int .i64 0, .int .i64 0, .int .i64 0, .int .i64 0, .int .i64 0, .slice none 0 0] 112)).alloc (.cells #[.string ⟨#[]⟩, .int .i64 0, .slice none 0 0, .slice none 0 0] 54) := ⟨_, rfl⟩
  obtain ⟨bf, hbf⟩ : ∃ bf, bf = w1.heap.size + 1 := ⟨_, rfl⟩
  have hRd : Blk w2 br 112 #[.slice A1 6 c1, .int .i64 11, .int .i64 4, .int .i64 0, .int .i64 0, .int .i64 0, .int .i64 0, .int .i64 0, .slice none 0 0] := by
    rw [hw2, hbr]; exact (Blk.new _ _ _).alloc _
  have hF : Blk w2 bf 54 #[.string ⟨#[]⟩, .int .i64 0, .slice none 0 0, .slice none 0 0] := by
    rw [hw2, hbf]
    have := Blk.new (w1.alloc (.cells #[.slice A1 6 c1, .int .i64 11, .int .i64 4, .int .i64 0, .int .i64 0, .int .i64 0, .int .i64 0, .int .i64 0, .slice none 0 0] 112)) 54 #[.string ⟨#[]⟩, .int .i64 0, .slice none 0 0, .slice none 0 0]
    rw [World.size_alloc] at this; exact this
  have hu12 : Upd [] w1 w2 := by rw [hw2]; exact ((Upd.refl [] w1).alloc _).alloc _
  have hR : XrAt w2 br 112 [bf] (xr0 [([116], 0), ([49], 2), ([49], 4), ([48], 6), ([49], 8), ([49], 10)]) (.slice none 0 0) :=
    ⟨⟨A1, c1, hRd, (((Sl.of_own [] hown1 (by simp)).more (G := [br, bf]) (by simp; omega)).upd (hu12.mono (by simp))), hc1⟩, by simp [xr0]⟩
  have hU : Upd [] w w2 := hu1.then_nil hu12
  have hbf1 : w.heap.size ≤ bf := by omega
  have hne : bf ≠ br := by omega
  have hne2 : br ≠ bf := by omega
  go_wp2_with fail
  rw [← hw2, ← hbr, show br + 1 = bf from by omega]
  have HBR := Lib.hid hbr; have HBF := Lib.hid hbf; clear hbr hbf hw2 hu12 hRd hown1 hu1 HWS hs
  have hwd := xword_any _ hR
  unfold XWordPost at hwd
  rw [x0_w] at hwd
  refine hwd.mono ?_
  rintro e w3 ⟨rfl, hu', hR'⟩
  clear hwd
  replace hU := hU.then hu' (by simp; omega)
  replace hF := hF.upd hu' (by simpa using hne)
  clear hR hu'
  have hR := hR'; clear hR'
  obtain ⟨w4, hw⟩ : ∃ W, W = (w3.setCell ⟨bf, 0, none⟩ (.string ⟨[116].toArray⟩)).alloc (.cells #[.string ⟨[116].toArray⟩, .int .i64 0] 114) := ⟨_, rfl⟩
  have hu' : Upd [bf] w3 w4 := by rw [hw]; exact ((Upd.refl [bf] _).setCell (.inl (by simp)) _).alloc _
  have hF' : Blk w4 bf 54 #[.string ⟨[116].toArray⟩, .int .i64 0, .slice none 0 0, .slice none 0 0] := by rw [hw]; have := (hF.set 0 (.string ⟨[116].toArray⟩)).alloc (.cells #[.string ⟨[116].toArray⟩, .int .i64 0] 114); simpa using this
  have c0 := hF.cell 0; simp at c0
  have f0 := hF.froz 0
  have l0 := hF.lt
  go_wp2_with fail
  rw [← hw]
  clear l0
  replace hU := hU.then hu' (by simp; omega)
  replace hR := hR.upd hu' (by simpa using hne2) (by simp)
  clear hF hu' hw c0 f0
  have hF := hF'; clear hF'
  refine (xlarge_any _ _ _ hR).mono ?_
  rintro e w5 ⟨rfl, hu', hR'⟩
  rw [xr0_large] at hR'
  replace hU := hU.then hu' (by simp; omega)
  replace hF := hF.upd hu' (by simpa using hne)
  clear hR hu'
  have hR := hR'; clear hR'
  go_wp2_with fail
  have hn := xnumber_any _ 1 4611686018427387904 hR
  unfold XNumPost at hn
  rw [x0_n1] at hn
  refine hn.mono ?_
  rintro e w6 ⟨rfl, hu', hR'⟩
  clear hn
  replace hU := hU.then hu' (by simp; omega)
  replace hF := hF.upd hu' (by simpa using hne)
  clear hR hu'
  have hR := hR'; clear hR'
  go_wp2_with fail
  refine (xlarge_any _ _ _ hR).mono ?_
  rintro e w7 ⟨rfl, hu', hR'⟩
  rw [xr0_large] at hR'
  replace hU := hU.then hu' (by simp; omega)
  replace hF := hF.upd hu' (by simpa using hne)
  clear hR hu'
  have hR := hR'; clear hR'
  go_wp2_with fail
  have hn := xnumber_any _ 1 4611686018427387904 hR
  unfold XNumPost at hn
  rw [x0_n2] at hn
  refine hn.mono ?_
  rintro e w8 ⟨rfl, hu', hR'⟩
  clear hn
  replace hU := hU.then hu' (by simp; omega)
  replace hF := hF.upd hu' (by simpa using hne)
  clear hR hu'
  have hR := hR'; clear hR'
  go_wp2_with fail
  have hn := xnumber_any _ 0 4611686018427387904 hR
  unfold XNumPost at hn
  rw [x0_n3] at hn
  refine hn.mono ?_
  rintro e w9 ⟨rfl, hu', hR'⟩
  clear hn
  replace hU := hU.then hu' (by simp; omega)
  replace hF := hF.upd hu' (by simpa using hne)
  clear hR hu'
  have hR := hR'; clear hR'
  go_wp2_with fail
  refine (xlarge_any _ _ _ hR).mono ?_
  rintro e w10 ⟨rfl, hu', hR'⟩
  rw [xr0_large] at hR'
  replace hU := hU.then hu' (by simp; omega)
  replace hF := hF.upd hu' (by simpa using hne)
  clear hR hu'
  have hR := hR'; clear hR'
  go_wp2_with fail
  have hn := xnumber_any _ 1 4611686018427387904 hR
  unfold XNumPost at hn
  rw [x0_n4] at hn
  refine hn.mono ?_
  rintro e w11 ⟨rfl, hu', hR'⟩
  clear hn
  replace hU := hU.then hu' (by simp; omega)
  replace hF := hF.upd hu' (by simpa using hne)
  clear hR hu'
  have hR := hR'; clear hR'
  go_wp2_with fail
  refine (xlarge_any _ _ _ hR).mono ?_
  rintro e w12 ⟨rfl, hu', hR'⟩
  rw [xr0_large] at hR'
  replace hU := hU.then hu' (by simp; omega)
  replace hF := hF.upd hu' (by simpa using hne)
  clear hR hu'
  have hR := hR'; clear hR'
  obtain ⟨w13, hw⟩ : ∃ W, W = w12.setCell ⟨bf, 1, none⟩ (.int .i64 1) := ⟨_, rfl⟩
  have hu' : Upd [bf] w12 w13 := by rw [hw]; exact (Upd.refl [bf] _).setCell (.inl (by simp)) _
  have hF' : Blk w13 bf 54 #[.string ⟨[116].toArray⟩, .int .i64 1, .slice none 0 0, .slice none 0 0] := by rw [hw]; have := hF.set 1 (.int .i64 1); simpa using this
  have c0 := hF.cell 1; simp at c0
  have f0 := hF.froz 1
  go_wp2_with fail
  rw [← hw]
  replace hU := hU.then hu' (by simp; omega)
  replace hR := hR.upd hu' (by simpa using hne2) (by simp)
  clear hF hu' hw c0 f0
  have hF := hF'; clear hF'
  obtain ⟨_, r3, r5⟩ := xr0_cells hR
  refine wp_loop_rounds 2 ?_
  rw [rounds_succ]
  go_wp2_with fail
  have hn := xnumber_any _ 1 1 hR
  unfold XNumPost at hn
  rw [x0_n5] at hn
  refine hn.mono ?_
  rintro e w14 ⟨rfl, hu', hR'⟩
  clear hn
  replace hU := hU.then hu' (by simp; omega)
  replace hF := hF.upd hu' (by simpa using hne)
  clear hR hu' r3 r5
  have hR := hR'; clear hR'
  go_wp2_with fail
  refine (xlarge_any _ _ _ hR).mono ?_
  rintro e w15 ⟨rfl, hu', hR'⟩
  rw [xr0_large] at hR'
  replace hU := hU.then hu' (by simp; omega)
  replace hF := hF.upd hu' (by simpa using hne)
  clear hR hu'
  have hR := hR'; clear hR'
  have hW : w.heap.size ≤ w15.heap.size := hU.size
  have c2 := hF.cell 2; simp at c2
  have f2 := hF.froz 2
  have l2 := hF.lt
  go_wp2_with (at_builtin; go_must (refine wpList_append_sl rfl _ _ rfl ty_int64s w.heap.size _ 0 [] rfl (World.ownsRow_nil _ _ _ _) [] _ 1 1 [intV 1] rfl (Sl.new w15 [] _ 1 1 [intV 1] rfl (by simp)) (by simp [intV, Value.oneCell']) (by decide) (by decide) (by simp; omega) ?_); intro v1 w16 hown hg hb _; obtain ⟨A2, c2', rfl, hc2⟩ := own_form hown; have hu' : Upd [] w15 w16 := ((Upd.refl [] w15).alloc _).grown hg (fun k hk => by cases hk); have hF := hF.upd hu' (by simp); have c2 := hF.cell 2; simp at c2; have f2 := hF.froz 2)
  obtain ⟨w17, hw⟩ : ∃ W, W = w16.setCell ⟨bf, 2, none⟩ (.slice A2 1 c2') := ⟨_, rfl⟩
  have hu2 : Upd [bf] w16 w17 := by rw [hw]; exact (Upd.refl [bf] _).setCell (.inl (by simp)) _
  have hF2 : Blk w17 bf 54 #[.string ⟨[116].toArray⟩, .int .i64 1, .slice A2 1 c2', .slice none 0 0] := by rw [hw]; have := hF.set 2 (.slice A2 1 c2'); simpa using this
  have hR16 := hR.fresh hu'
  have hR17 := hR16.upd hu2 (by simpa using hne2) (by simp)
  have hU17 := (hU.then_nil hu').then hu2 (by simp; omega)
  have hA2 : ∀ g, (Value.slice A2 (0 + 1) c2').ownBlock = some g → g ∉ [bf] := by
    intro g hgg
    rcases hb g hgg with h | h
    · cases h
    · simp at h ⊢; omega
  have hown17 := own_upd hown hu2 hA2
  simp only [List.nil_append] at hown17
  rw [← hw]
  rw [rounds_succ]
  clear hown hb hg hA2 hw hu2 hu' hR hR16 hF hU c2 f2 l2
  obtain ⟨⟨A9, c9, r0⟩, r3, r5⟩ := xr0_cells hR17
  go_wp2_with fail
  refine wp_loop_rounds 1 ?_
  rw [rounds_succ]
  go_wp2_with fail
  go_ret3
  have hc3 : 1 ≤ c2' := by omega
  exact ⟨bf, A2, c2', rfl, hbf1, hF2, Sl.of_own [] hown17 (by simp), hc3, hU17⟩
end Go.Proofs.YtmmkeaokhbmgoaaGreatDoor
