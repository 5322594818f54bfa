/- wcsp's reader: word, number. -/
import Derived.Test.YtmmkeaokhbmgoaaGreatDoorS5
namespace Go.Proofs.YtmmkeaokhbmgoaaGreatDoor
open Go.RowKit

def RdPost (br bs : Nat) (tr ts : TypeId) (A : Option Addr) (c : Nat) (l : List UInt8) (r : Rd) (sh : Value) (v : Value) (w : World) (e : Ending) (w' : World) : Prop :=
  e = .returned v ∧ Upd [br, bs] w w' ∧ RdAt w' br bs tr ts A c l r sh

set_option maxHeartbeats 400000 in
theorem rword_any {br bs : Nat} {tr ts : TypeId} {A : Option Addr} {c : Nat} {l : List UInt8} {r : Rd} {sh : Value} (w : World) (h : RdAt w br bs tr ts A c l r sh) (hg : r.good) :
    Calls Tryz.prog 30 #[.pointer (some ⟨br, 0, none⟩)] w
      (RdPost br bs tr ts A c l (rdWord l r).2.2 sh (.tuple #[.string ⟨(rdWord l r).1.toArray⟩, .int .i64 (rdWord l r).2.1]) w) := by
  have hok := ok_any w h
  by_cases hb : r.bad = 0
  · have hsb := hg hb
    have hsc := h.sc
    rw [hsb] at hsc
    have hwd := word_any bs ts A l c r.at_ w h.at_le h.len h.cap hsc (h.tx.less (by simp))
    have h0 := h.rd.cell 0
    simp at h0
    have hb' : (r.bad == 0) = true := by simpa using hb
    rw [hb'] at hok
    have hat := wordR_at l r.at_ h.at_le
    have HB := Lib.hid hb; clear hb hsb hsc hg
    have HOK := Lib.hid hok; clear hok
    have HWD := Lib.hid hwd; clear hwd
    obtain ⟨x, hx⟩ : ∃ x, x = wordR l r.at_ := ⟨_, rfl⟩
    have hrd : rdWord l r = (x.1, x.2.1, if (if x.2.2.1 = 2 then (4 : Int) else x.2.2.1) ≠ 0 then rdWrong { r with at_ := x.2.2.2.1, sb := x.2.2.2.2 } (if x.2.2.1 = 2 then 4 else x.2.2.1) x.2.1 else { r with at_ := x.2.2.2.1, sb := x.2.2.2.2 }) := by
      rw [hx]; simp [rdWord, HB.out]
    rw [← hx] at hat
    have HX := Lib.hid hx; clear hx
    have HRD := Lib.hid hrd; clear hrd
    obtain ⟨wd, pl, er, at2, sb2⟩ := x
    dsimp only at HRD hat
    go_enter Tryz.func30, Tryz.ntmps30
    go_wp2_with (go_at_call 33; refine HOK.out.mono ?_; rintro e w' ⟨rfl, rfl⟩)
    refine HWD.out.mono ?_
    rintro e w1 ⟨rfl, hu, hB1⟩
    rw [← HX.out] at hB1 ⊢
    dsimp only at hB1 ⊢
    have hR : RdAt w1 br bs tr ts A c l { r with at_ := at2, sb := sb2 } sh :=
      ⟨h.rd.upd hu (by simpa using h.ne), hB1, h.tx.upd (hu.mono (by simp)), h.ne, h.cap, h.len, hat⟩
    have hu2 : Upd [br, bs] w w1 := hu.mono (by simp)
    clear h0 hb' hB1 HX HOK HWD
    by_cases he2 : er = 2
    · have he2' : (er == 2) = true := by simpa using he2
      have HE := Lib.hid he2; clear he2
      go_wp2_with fail
      refine (wrong_any w1 _ _ hR).mono ?_
      rintro e w2 ⟨rfl, hu3, hR2⟩
      go_wp2_with fail
      go_ret2
      unfold RdPost
      rw [HRD.out, if_pos HE.out, if_pos (by decide)]
      exact ⟨rfl, hu2.trans (hu3.mono (by simp)), hR2⟩
    · have he2' : (er == 2) = false := by simpa using he2
      by_cases he0 : er = 0
      · have he0' : (er != 0) = false := by simpa using he0
        have HE := Lib.hid he0; clear he0
        have HE2 := Lib.hid he2; clear he2
        go_wp2_with fail
        go_ret2
        unfold RdPost
        rw [HRD.out, if_neg HE2.out, if_neg (by rw [HE.out]; simp)]
        exact ⟨rfl, hu2, hR⟩
      · have he0' : (er != 0) = true := by simpa using he0
        have HE := Lib.hid he0; clear he0
        have HE2 := Lib.hid he2; clear he2
        go_wp2_with fail
        refine (wrong_any w1 _ _ hR).mono ?_
        rintro e w2 ⟨rfl, hu3, hR2⟩
        go_wp2_with fail
        go_ret2
        unfold RdPost
        rw [HRD.out, if_neg HE2.out, if_pos HE.out]
        exact ⟨rfl, hu2.trans (hu3.mono (by simp)), hR2⟩
  · have hb' : (r.bad == 0) = false := by simpa using hb
    rw [hb'] at hok
    have HB := Lib.hid hb; clear hb
    have HOK := Lib.hid hok; clear hok
    go_enter Tryz.func30, Tryz.ntmps30
    go_wp2_with (go_at_call 33; refine HOK.out.mono ?_; rintro e w' ⟨rfl, rfl⟩)
    go_ret2
    unfold RdPost
    rw [rdWord, if_pos HB.out]
    exact ⟨rfl, Upd.refl _ _, h⟩

theorem rdWord_len (l : List UInt8) (r : Rd) : (rdWord l r).1.length ≤ l.length := by
  unfold rdWord
  split
  · simp
  · exact wordR_len l r.at_

set_option maxHeartbeats 400000 in
theorem number_any {br bs : Nat} {tr ts : TypeId} {A : Option Addr} {c : Nat} {l : List UInt8} {r : Rd} {sh : Value} (w : World) (least most : Int) (h : RdAt w br bs tr ts A c l r sh) (hg : r.good) :
    Calls Tryz.prog 32 #[.pointer (some ⟨br, 0, none⟩), .int .i64 least, .int .i64 most] w
      (RdPost br bs tr ts A c l (rdNumber l r least most).2.2 sh (.tuple #[.int .i64 (rdNumber l r least most).1, .int .i64 (rdNumber l r least most).2.1]) w) := by
  have hwd := rword_any w h hg
  have hlen := rdWord_len l r
  have hg1 : (rdWord l r).2.2.good := rdWord_good hg
  obtain ⟨x, hx⟩ : ∃ x, x = rdWord l r := ⟨_, rfl⟩
  have hn : rdNumber l r least most = if x.2.2.bad ≠ 0 then (0, x.2.1, x.2.2) else if (readN x.1).2 ≠ 0 ∨ (readN x.1).1 < least ∨ most < (readN x.1).1 then (0, x.2.1, rdWrong x.2.2 4 x.2.1) else ((readN x.1).1, x.2.1, x.2.2) := by rw [hx]; rfl
  rw [← hx] at hwd hlen hg1
  clear hx
  have HN := Lib.hid hn; clear hn
  have HWD := Lib.hid hwd; clear hwd
  obtain ⟨wd, pl, r1⟩ := x
  dsimp only at HN hlen hg1 HWD
  have hl := h.len
  go_enter Tryz.func32, Tryz.ntmps32
  go_wp2_with (go_at_call 30; refine HWD.out.mono ?_; rintro e w1 ⟨rfl, hu1, hR1⟩)
  have hok := ok_any w1 hR1
  have HOK := Lib.hid hok; clear hok
  refine HOK.out.mono ?_
  rintro e w' ⟨rfl, rfl⟩
  by_cases hb : r1.bad = 0
  · have hb' : (r1.bad == 0) = true := by simpa using hb
    have HB := Lib.hid hb; clear hb
    go_wp2_with fail
    refine (read_any wd w1 (by omega)).mono ?_
    rintro e w2 ⟨rfl, hu2⟩
    have hR2 := hR1.fresh hu2
    have hu3 : Upd [br, bs] w w2 := hu1.then_nil hu2
    obtain ⟨v, er, hve⟩ : ∃ v er, readN wd = (v, er) := ⟨_, _, rfl⟩
    rw [hve]
    rw [hve] at HN
    dsimp only at HN ⊢
    clear hve hR1 hu1 hu2 HOK hb'
    by_cases he : er = 0
    · have he' : (er != 0) = false := by simpa using he
      have HE := Lib.hid he; clear he
      by_cases hlo : v < least
      · go_wp2_with fail
        refine (wrong_any w2 _ _ hR2).mono ?_
        rintro e w4 ⟨rfl, hu4, hR4⟩
        go_wp2_with fail
        go_ret2
        unfold RdPost
        rw [HN.out, if_neg (by simpa using HB.out), if_pos (.inr (.inl hlo))]
        exact ⟨rfl, hu3.trans (hu4.mono (by simp)), hR4⟩
      · by_cases hhi : most < v
        · go_wp2_with fail
          refine (wrong_any w2 _ _ hR2).mono ?_
          rintro e w4 ⟨rfl, hu4, hR4⟩
          go_wp2_with fail
          go_ret2
          unfold RdPost
          rw [HN.out, if_neg (by simpa using HB.out), if_pos (.inr (.inr hhi))]
          exact ⟨rfl, hu3.trans (hu4.mono (by simp)), hR4⟩
        · go_wp2_with fail
          go_ret2
          unfold RdPost
          rw [HN.out, if_neg (by simpa using HB.out), if_neg (by rw [HE.out]; omega)]
          exact ⟨rfl, hu3, hR2⟩
    · have he' : (er != 0) = true := by simpa using he
      have HE := Lib.hid he; clear he
      go_wp2_with fail
      refine (wrong_any w2 _ _ hR2).mono ?_
      rintro e w4 ⟨rfl, hu4, hR4⟩
      go_wp2_with fail
      go_ret2
      unfold RdPost
      rw [HN.out, if_neg (by simpa using HB.out), if_pos (.inl HE.out)]
      exact ⟨rfl, hu3.trans (hu4.mono (by simp)), hR4⟩
  · have hb' : (r1.bad == 0) = false := by simpa using hb
    have HB := Lib.hid hb; clear hb
    go_wp2_with fail
    go_ret2
    unfold RdPost
    rw [HN.out, if_pos HB.out]
    exact ⟨rfl, hu1, hR1⟩
end Go.Proofs.YtmmkeaokhbmgoaaGreatDoor
