/- wcsp.Read of the one text that ScriptNames reads. -/
import Derived.Test.YtmmkeaokhbmgoaaGreatDoorS8
import Derived.Test.YtmmkeaokhbmgoaaGreatDoorR1
namespace Go.Proofs.YtmmkeaokhbmgoaaGreatDoor
open Go.RowKit
def Read0Post (w : World) (e : Ending) (w' : World) : Prop :=
  ∃ b A c, e = .returned (.tuple #[.pointer (some ⟨b, 0, none⟩), .int .i64 11, .int .i64 0]) ∧ w.heap.size ≤ b ∧
    Blk w' b 102 #[.string ⟨[116].toArray⟩, .int .i64 1, .slice A 1 c, .slice none 0 0] ∧ Sl w' [] 1 A 1 [intV 1] ∧ 1 ≤ c ∧ Upd [] w w'

set_option maxRecDepth 100000 in
set_option maxHeartbeats 2000000 in
theorem read0 (A : Option Addr) (c : Nat) (w : World) (hs : Sl w [] 1 A 11 (L0.map byteV)) :
    Calls Tryz.prog 11 #[.slice A 11 c] w (Read0Post w) := by
  go_enter Tryz.func11, Tryz.ntmps11
  go_wp2_with fail
  refine (scanNew_any [] A L0 c w hs (by decide)).mono ?_
  rintro e w1 ⟨bs, A1, c1, rfl, hbs, hc1, hB, hSl, hA1, hu1⟩
  have hB2 := Blk.new w1 85 #[.pointer (some ⟨bs, 0, none⟩), .int .i64 0, .int .i64 0, .int .i64 0, .int .i64 0, .int .i64 0, .slice none 0 0]
  have hbl := hB.lt
  have hlen0 : L0.length = 11 := rfl
  have hR0 : RdAt (w1.alloc (.cells #[.pointer (some ⟨bs, 0, none⟩), .int .i64 0, .int .i64 0, .int .i64 0, .int .i64 0, .int .i64 0, .slice none 0 0] 85)) w1.heap.size bs 85 186 A1 c1 L0 (rd0 0) (.slice none 0 0) :=
    ⟨hB2, hB.alloc _, by
      have h1 := hSl.alloc (.cells #[.pointer (some ⟨bs, 0, none⟩), .int .i64 0, .int .i64 0, .int .i64 0, .int .i64 0, .int .i64 0, .slice none 0 0] 85)
      refine ⟨h1.1, fun hn => ?_⟩
      obtain ⟨ad, h2, h3, h4, h5⟩ := h1.2 hn
      obtain ⟨ad', h2', h3', h4', h5'⟩ := hSl.2 hn
      cases h2.symm.trans h2'
      refine ⟨ad, h2, ?_, h4, h5⟩
      simp at h3 ⊢; exact ⟨by omega, h3⟩, by omega, by omega, by decide, by decide⟩
  have hu2 := hu1.alloc (.cells #[.pointer (some ⟨bs, 0, none⟩), .int .i64 0, .int .i64 0, .int .i64 0, .int .i64 0, .int .i64 0, .slice none 0 0] 85)
  obtain ⟨br, hbr⟩ : ∃ br, br = w1.heap.size := ⟨_, rfl⟩
  have hbr1 : w.heap.size ≤ br := by rw [hbr]; exact hu1.size
  rw [← hbr] at hR0
  have HBR := Lib.hid hbr; clear hbr
  clear hB2 hB hSl hA1
  go_wp2_with fail
  rw [← HBR.out]
  have hw := rword_any _ hR0 (rd0_good 0)
  rw [l0_w] at hw
  refine hw.mono ?_
  rintro e w2 ⟨rfl, hu3, hR1⟩
  have hU := hu3
  have hR := hR1
  clear hu3 hR1 hw hR0
  go_wp2_with fail
  refine (large_any w2 _ _ hR).mono ?_
  rintro e w3 ⟨rfl, hu', hR'⟩
  rw [rd0_large] at hR'
  replace hU := hU.trans (hu'.mono (by simp))
  clear hR hu'
  have hR := hR'; clear hR'
  go_wp2_with fail
  have hn := number_any w3 1 4611686018427387904 hR (rd0_good _)
  rw [l0_n1] at hn
  refine hn.mono ?_
  rintro e w4 ⟨rfl, hu', hR'⟩
  replace hU := hU.trans hu'
  clear hR hu' hn
  have hR := hR'; clear hR'
  go_wp2_with fail
  refine (large_any w4 _ _ hR).mono ?_
  rintro e w5 ⟨rfl, hu', hR'⟩
  rw [rd0_large] at hR'
  replace hU := hU.trans (hu'.mono (by simp))
  clear hR hu'
  have hR := hR'; clear hR'
  go_wp2_with fail
  have hn := number_any w5 1 4611686018427387904 hR (rd0_good _)
  rw [l0_n3] at hn
  refine hn.mono ?_
  rintro e w6 ⟨rfl, hu', hR'⟩
  replace hU := hU.trans hu'
  clear hR hu' hn
  have hR := hR'; clear hR'
  go_wp2_with fail
  have hn := number_any w6 0 4611686018427387904 hR (rd0_good _)
  rw [l0_n5] at hn
  refine hn.mono ?_
  rintro e w7 ⟨rfl, hu', hR'⟩
  replace hU := hU.trans hu'
  clear hR hu' hn
  have hR := hR'; clear hR'
  go_wp2_with fail
  refine (large_any w7 _ _ hR).mono ?_
  rintro e w8 ⟨rfl, hu', hR'⟩
  rw [rd0_large] at hR'
  replace hU := hU.trans (hu'.mono (by simp))
  clear hR hu'
  have hR := hR'; clear hR'
  go_wp2_with fail
  have hn := number_any w8 1 4611686018427387904 hR (rd0_good _)
  rw [l0_n7] at hn
  refine hn.mono ?_
  rintro e w9 ⟨rfl, hu', hR'⟩
  replace hU := hU.trans hu'
  clear hR hu' hn
  have hR := hR'; clear hR'
  go_wp2_with fail
  refine (large_any w9 _ _ hR).mono ?_
  rintro e w10 ⟨rfl, hu', hR'⟩
  rw [rd0_large] at hR'
  replace hU := hU.trans (hu'.mono (by simp))
  clear hR hu'
  have hR := hR'; clear hR'
  go_wp2_with fail
  have t1 : ((rd0 9).bad == 0) = true := rfl
  have t2 : ((rd0 11).bad == 0) = true := rfl
  have T1 := Lib.hid t1; clear t1
  have T2 := Lib.hid t2; clear t2
  refine wp_loop_rounds 2 ?_
  rw [rounds_succ]
  go_wp2_with fail
  have hok := ok_any w10 hR
  rw [T1.out] at hok
  refine hok.mono ?_
  rintro e w' ⟨rfl, rfl⟩
  clear hok
  go_wp2_with fail
  have hn := number_any w10 1 1 hR (rd0_good _)
  rw [l0_n9] at hn
  refine hn.mono ?_
  rintro e w11 ⟨rfl, hu', hR'⟩
  replace hU := hU.trans hu'
  clear hR hu' hn
  have hR := hR'; clear hR'
  go_wp2_with fail
  refine (large_any w11 _ _ hR).mono ?_
  rintro e w12 ⟨rfl, hu', hR'⟩
  rw [rd0_large] at hR'
  replace hU := hU.trans (hu'.mono (by simp))
  clear hR hu'
  have hR := hR'; clear hR'
  have hW : w.heap.size ≤ w12.heap.size := by have h1 := hU.size; have h2 := hu2.size; omega
  have hbslt : bs < w12.heap.size := hR.sc.lt
  go_wp2_with (at_builtin; refine wpList_append_sl rfl _ _ rfl ty_int64s w.heap.size _ 0 [] rfl (World.ownsRow_nil _ _ _ _) [] _ 1 1 [intV 1] rfl (Sl.new w12 [] _ 1 1 [intV 1] rfl (by simp)) (by simp [intV, Value.oneCell']) (by decide) (by decide) (by simp; omega) ?_; intro v1 w13 hown hg hb _; obtain ⟨A2, c2, rfl, hc2⟩ := own_form hown)
  have hu13 : Upd [] w12 w13 := ((Upd.refl [] w12).alloc _).grown hg (fun k hk => by cases hk)
  replace hU := hU.then_nil hu13
  replace hR := hR.fresh hu13
  clear hg hu13 hW
  simp only [List.nil_append] at hown
  have hA2 : ∀ g, (Value.slice A2 (0 + 1) c2).ownBlock = some g → g ≠ bs := by
    intro g hgg
    rcases hb g hgg with h | h
    · cases h
    · simp at h; omega
  have HA2 := Lib.hid hA2; clear hA2 hb hbslt
  rw [rounds_succ]
  go_wp2_with fail
  refine wp_loop_rounds 1 ?_
  rw [rounds_succ]
  go_wp2_with fail
  have hok := ok_any w13 hR
  rw [T2.out] at hok
  refine hok.mono ?_
  rintro e w' ⟨rfl, rfl⟩
  clear hok
  have h0 := hR.rd.cell 0
  simp at h0
  go_wp2_with fail
  have hsc := hR.sc
  have hwd := word_any bs 186 A1 L0 c1 11 w13 (by decide) (by decide) hR.cap hsc (hR.tx.less (by simp))
  unfold WordPost at hwd
  rw [l0_end] at hwd
  refine hwd.mono ?_
  rintro e w14 ⟨rfl, hu14, hB14⟩
  have hR14 : RdAt w14 br bs 85 186 A1 c1 L0 (rd0 11) (.slice none 0 0) :=
    ⟨hR.rd.upd hu14 (by simpa using hR.ne), hB14, hR.tx.upd (hu14.mono (by simp)), hR.ne, hR.cap, hR.len, hR.at_le⟩
  replace hU := hU.trans (hu14.mono (by simp))
  have hbs2 : w.heap.size ≤ bs := hbs
  have hown14 : w14.ownsRow w.heap.size 2 1 (.slice A2 1 c2) 1 [intV 1] := own_upd hown hu14 (fun g hgg => by have := HA2.out g hgg; simpa using this)
  clear hR hwd hsc hB14 h0 hown
  have h1 := hR14.rd.cell 1; have h2 := hR14.rd.cell 2
  simp [rd0] at h1 h2
  go_wp2_with fail
  refine (ints_any A2 c2 [1] w14 (Sl.of_own [] hown14 (by simp)) (by decide)).mono ?_
  rintro e w15 ⟨v3, rfl, hown3, hu15⟩
  obtain ⟨A3, c3, rfl, hc3⟩ := own_form hown3
  go_wp2_with fail
  refine wp_loop_rounds 1 ?_
  rw [rounds_succ]
  go_wp2_with fail
  go_ret3
  have hu16 : Upd [] w w15 := (hu2.then hU (by intro x hx; simp at hx; rcases hx with rfl | rfl <;> exact .inr (by omega))).then_nil hu15
  have hSl := (Sl.of_own [] hown3 (by simp)).alloc (.cells #[.string ⟨[116].toArray⟩, .int .i64 1, .slice A3 1 c3, .slice none 0 0] 102)
  exact ⟨w15.heap.size, A3, c3, rfl, hu16.size, Blk.new _ _ _, hSl, hc3, hu16.alloc _⟩
end Go.Proofs.YtmmkeaokhbmgoaaGreatDoor
