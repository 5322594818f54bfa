/- scan.Scan's Word, at every text that has no wrong byte met as yet. -/
import Derived.Test.YtmmkeaokhbmgoaaGreatDoorS2
import Derived.Deep.QuietTactic
import Derived.BigQuiet
namespace Go.Proofs.YtmmkeaokhbmgoaaGreatDoor
open Go.RowKit

/-- What Word answers, and what it leaves: the word, its place, the error, 'at', 'bad'. -/
def wordR (l : List UInt8) (k : Nat) : List UInt8 × Int × Int × Nat × Int :=
  let f := skipTo l k
  let t := wordTo l f
  if t < l.length ∧ btB (l.getD t 0).toNat = false then ([], t, 11, k, t)
  else if f = t then ([], l.length, 2, k, -1)
  else ((l.drop f).take (t - f), f, 0, t, -1)

def WordPost (b : Nat) (tb : TypeId) (A : Option Addr) (c : Nat) (l : List UInt8) (k : Nat) (w : World) (e : Ending) (w' : World) : Prop :=
  e = .returned (.tuple #[.string ⟨(wordR l k).1.toArray⟩, .int .i64 (wordR l k).2.1, .int .i64 (wordR l k).2.2.1]) ∧ Upd [b] w w' ∧
  Blk w' b tb #[.slice A l.length c, .int .i64 (wordR l k).2.2.2.1, .int .i64 (wordR l k).2.2.2.2]

set_option maxRecDepth 100000 in
set_option maxHeartbeats 1000000 in
theorem word_any (b : Nat) (tb : TypeId) (A : Option Addr) (l : List UInt8) (c k0 : Nat) (w : World) (hk0 : k0 ≤ l.length) (hm : l.length ≤ 65536) (hcap : l.length ≤ c)
    (hB : Blk w b tb #[.slice A l.length c, .int .i64 k0, .int .i64 (-1)]) (hl : Sl w [b] 1 A l.length (l.map byteV)) :
    Calls Tryz.prog 35 #[.pointer (some ⟨b, 0, none⟩)] w (WordPost b tb A c l k0 w) := by
  have h0 := hB.cell 0; have h1 := hB.cell 1; have h2 := hB.cell 2
  have f1 := hB.froz 1; have f2 := hB.froz 2
  simp at h0 h1 h2
  have hsk := skip_any b A l c k0 w hk0 hm h0 h1 (hl.less (by simp))
  have hle := skipTo_le l k0 hk0
  have hst := skipTo_stop l k0
  generalize hf : skipTo l k0 = f at hsk hle hst
  have HST := Lib.hid hst; clear hst
  have HF := Lib.hid hf; clear hf
  have HSK := Lib.hid hsk; clear hsk
  go_enter Tryz.func35, Tryz.ntmps35
  go_wp2_with (go_at_call 99; refine HSK.out.mono ?_; rintro e w' ⟨rfl, rfl⟩)
  go_loop [6] (fun i => ∃ k : Nat, f ≤ k ∧ k ≤ l.length ∧ i = .int .i64 k ∧ wordTo l f = wordTo l k) (fun i => l.length - (intOf i).toNat)
  case atStart => exact ⟨f, by omega, by omega, rfl, rfl⟩
  case round =>
    obtain ⟨k, hfk, hk, rfl, hs⟩ := hrel
    have HS := Lib.hid hs; clear hs
    by_cases hlt : k < l.length
    · obtain ⟨ad, rfl, hc⟩ := hl.get hlt
      have hc' : w.cell? (ad.add k) = some (.int .u8 l[k].toNat) := by rw [hc]; simp [byteV]
      clear hc
      have hu : wordTo l k = if inB l[k].toNat then wordTo l (k + 1) else k := by rw [wordTo]; simp [hlt]
      have HU := Lib.hid hu; clear hu
      by_cases hb : inB l[k].toNat = true
      · go_wp2_with (go_at_call 100; refine (in_any _ _).mono ?_; rintro e w' ⟨rfl, rfl⟩)
        go_round
        case rel => exact ⟨k + 1, by omega, by omega, by go_num, by rw [HS.out, HU.out]; simp [hb]⟩
        case measure => simp [intOf]; omega
      · have hb' : inB l[k].toNat = false := by simpa using hb
        have hg : l.getD k 0 = l[k] := by simp [List.getD_eq_getElem?_getD, hlt]
        have HG := Lib.hid hg; clear hg
        have hwk : wordTo l f = k := by rw [HS.out, HU.out]; simp [hb]
        have HWK := Lib.hid hwk; clear hwk
        by_cases hbt : btB l[k].toNat = false
        · go_wp2_with (first | (go_at_call 100; refine (in_any _ _).mono ?_; rintro e w' ⟨rfl, rfl⟩) | (go_at_call 101; refine (between_any _ _).mono ?_; rintro e w' ⟨rfl, rfl⟩))
          go_ret3
          have e : wordR l k0 = ([], (k : Int), 11, k0, (k : Int)) := by unfold wordR; simp only [HF.out, HWK.out]; rw [if_pos ⟨hlt, by rw [HG.out]; exact hbt⟩]
          unfold WordPost; rw [e]
          exact ⟨rfl, (Upd.refl _ _).setCell (.inl (by simp)) _, by have := hB.set 2 (.int .i64 k); simpa using this⟩
        · have hbt' : btB l[k].toNat = true := by simpa using hbt
          have hfk' : f < k := by
            rcases Nat.lt_or_ge f k with h | h
            · exact h
            · obtain rfl : f = k := by omega
              have := HST.out hlt
              rw [HG.out, hbt'] at this; cases this
          have hne : ((f : Int) == k) = false := by simp; omega
          have hcf : (c = f) = False := by simp; omega
          have hcut := hl.cut (lo := f) (hi := k) (cap := c) (by omega) (by omega) hcap
          rw [if_neg (by omega)] at hcut
          simp only [Nat.mul_one, Option.map_some, ← List.map_drop, ← List.map_take] at hcut
          have hcv := fun u x => run_str_of (P := Tryz.prog) 37 9 5 (c - f) Tryz.underlying37 Tryz.underlying5 Tryz.underlying9 ((hcut.upd ((Upd.refl [b] w).setCell (p := ⟨b, u, none⟩) (.inl (by simp)) x)))
          clear hcut
          go_wp2_with (first | (go_at_call 100; refine (in_any _ _).mono ?_; rintro e w' ⟨rfl, rfl⟩) | (go_at_call 101; refine (between_any _ _).mono ?_; rintro e w' ⟨rfl, rfl⟩))
          go_ret3
          have e : wordR l k0 = ((l.drop f).take (k - f), (f : Int), 0, k, -1) := by unfold wordR; simp only [HF.out, HWK.out]; rw [if_neg (by rw [HG.out, hbt']; simp), if_neg (by omega)]
          unfold WordPost; rw [e]
          exact ⟨rfl, (Upd.refl _ _).setCell (.inl (by simp)) _, by have := hB.set 1 (.int .i64 k); simpa using this⟩
    · have hu : wordTo l k = k := by rw [wordTo]; simp [hlt]
      have HU := Lib.hid hu; clear hu
      have hwk : wordTo l f = k := by rw [HS.out, HU.out]
      have HWK := Lib.hid hwk; clear hwk
      by_cases hfk : f = k
      · have hne : ((f : Int) == k) = true := by simp [hfk]
        go_wp2
        go_quiet (fail)
        go_wp2
        go_ret3
        have e : wordR l k0 = ([], (l.length : Int), 2, k0, -1) := by unfold wordR; simp only [HF.out, HWK.out]; rw [if_neg (by omega), if_pos hfk]
        unfold WordPost; rw [e]
        exact ⟨rfl, (Upd.refl _ _).drewN _, hB⟩
      · have hne : ((f : Int) == k) = false := by simp; omega
        have hcut := hl.cut (lo := f) (hi := k) (cap := c) (by omega) (by omega) hcap
        rw [if_neg (by omega)] at hcut
        obtain ⟨ad, rfl, _⟩ := hl.2 (by omega)
        simp only [Nat.mul_one, Option.map_some, ← List.map_drop, ← List.map_take] at hcut
        have hcf : (c = f) = False := by simp; omega
        have hcv := fun u x => run_str_of (P := Tryz.prog) 37 9 5 (c - f) Tryz.underlying37 Tryz.underlying5 Tryz.underlying9 ((hcut.upd ((Upd.refl [b] w).setCell (p := ⟨b, u, none⟩) (.inl (by simp)) x)))
        clear hcut
        go_wp2
        go_ret3
        have e : wordR l k0 = ((l.drop f).take (k - f), (f : Int), 0, k, -1) := by unfold wordR; simp only [HF.out, HWK.out]; rw [if_neg (by omega), if_neg (by omega)]
        unfold WordPost; rw [e]
        exact ⟨rfl, (Upd.refl _ _).setCell (.inl (by simp)) _, by have := hB.set 1 (.int .i64 k); simpa using this⟩
theorem wordR_at (l : List UInt8) (k : Nat) (h : k ≤ l.length) : (wordR l k).2.2.2.1 ≤ l.length := by
  have h1 := skipTo_le l k h
  have h2 := wordTo_le l (skipTo l k) h1.2
  unfold wordR
  dsimp only
  split
  · exact h
  · split
    · exact h
    · exact h2.2
theorem wordR_len (l : List UInt8) (k : Nat) : (wordR l k).1.length ≤ l.length := by
  unfold wordR
  dsimp only
  split
  · simp
  · split
    · simp
    · simp; omega
theorem wordR_ok (l : List UInt8) (k : Nat) (h : (wordR l k).2.2.1 ≠ 11) : (wordR l k).2.2.2.2 = -1 := by
  unfold wordR at h ⊢
  dsimp only at h ⊢
  split at h
  · simp at h
  · rename_i hn; rw [if_neg hn]
    split <;> rfl
end Go.Proofs.YtmmkeaokhbmgoaaGreatDoor
