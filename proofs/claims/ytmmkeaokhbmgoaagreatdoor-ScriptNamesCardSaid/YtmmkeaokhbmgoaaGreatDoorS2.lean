/- scan.Scan's skip and Word, at every text. -/
import Derived.Test.YtmmkeaokhbmgoaaGreatDoorBase
import Derived.Test.YtmmkeaokhbmgoaaGreatDoorS1
namespace Go.Proofs.YtmmkeaokhbmgoaaGreatDoor
open Go.RowKit

/-- Where the bytes from k on that stand between words end. -/
def skipTo (l : List UInt8) (k : Nat) : Nat :=
  if h : k < l.length then (if btB l[k].toNat then skipTo l (k + 1) else k) else k
termination_by l.length - k
def wordTo (l : List UInt8) (k : Nat) : Nat :=
  if h : k < l.length then (if inB l[k].toNat then wordTo l (k + 1) else k) else k
termination_by l.length - k

set_option maxHeartbeats 400000 in
theorem skip_any (b : Nat) (A : Option Addr) (l : List UInt8) (c k0 : Nat) (w : World) (hk0 : k0 ≤ l.length) (hm : l.length ≤ 65536)
    (h0 : w.cell? ⟨b, 0, none⟩ = some (.slice A l.length c)) (h1 : w.cell? ⟨b, 1, none⟩ = some (.int .i64 k0)) (hl : Sl w [] 1 A l.length (l.map byteV)) :
    Calls Tryz.prog 99 #[.pointer (some ⟨b, 0, none⟩)] w fun e w' => e = .returned (.int .i64 (skipTo l k0)) ∧ w = w' := by
  go_enter Tryz.func99, Tryz.ntmps99
  go_wp2
  go_loop [3] (fun i => ∃ k : Nat, k ≤ l.length ∧ i = .int .i64 k ∧ skipTo l k0 = skipTo l k) (fun i => l.length - (intOf i).toNat)
  case atStart => exact ⟨k0, hk0, rfl, rfl⟩
  case round =>
    obtain ⟨k, hk, rfl, hs⟩ := hrel
    have HS := Lib.hid hs; clear hs
    by_cases hlt : k < l.length
    · obtain ⟨ad, rfl, hc⟩ := hl.get hlt
      have hc' : w.cell? (ad.add k) = some (.int .u8 l[k].toNat) := by rw [hc]; simp [byteV]
      clear hc
      have hu : skipTo l k = if btB l[k].toNat then skipTo l (k + 1) else k := by rw [skipTo]; simp [hlt]
      have HU := Lib.hid hu; clear hu
      by_cases hb : btB l[k].toNat = true
      · go_wp2_with (go_at_call 101; refine (between_any _ _).mono ?_; rintro e w' ⟨rfl, rfl⟩)
        go_round
        case rel => exact ⟨k + 1, by omega, by go_num, by rw [HS.out, HU.out]; simp [hb]⟩
        case measure => simp [intOf]; omega
      · go_wp2_with (go_at_call 101; refine (between_any _ _).mono ?_; rintro e w' ⟨rfl, rfl⟩)
        go_ret
        exact ⟨by rw [HS.out, HU.out]; simp [hb], rfl⟩
    · have hu : skipTo l k = k := by rw [skipTo]; simp [hlt]
      have HU := Lib.hid hu; clear hu
      go_wp2
      go_ret
      exact ⟨by rw [HS.out, HU.out]; rfl, rfl⟩

theorem skipTo_le (l : List UInt8) (k : Nat) (h : k ≤ l.length) : k ≤ skipTo l k ∧ skipTo l k ≤ l.length := by
  rw [skipTo]
  split
  · split
    · have := skipTo_le l (k + 1) (by omega); omega
    · omega
  · omega
termination_by l.length - k
theorem wordTo_le (l : List UInt8) (k : Nat) (h : k ≤ l.length) : k ≤ wordTo l k ∧ wordTo l k ≤ l.length := by
  rw [wordTo]
  split
  · split
    · have := wordTo_le l (k + 1) (by omega); omega
    · omega
  · omega
termination_by l.length - k

theorem skipTo_stop (l : List UInt8) (k : Nat) (h : skipTo l k < l.length) : btB (l.getD (skipTo l k) 0).toNat = false := by
  by_cases h1 : k < l.length
  · by_cases h2 : btB l[k].toNat = true
    · have e : skipTo l k = skipTo l (k + 1) := by rw [skipTo]; simp [h1, h2]
      rw [e] at h ⊢
      exact skipTo_stop l (k + 1) h
    · have e : skipTo l k = k := by rw [skipTo]; simp [h1, h2]
      rw [e]
      simp [List.getD_eq_getElem?_getD, h1]
      simpa using h2
  · have e : skipTo l k = k := by rw [skipTo]; simp [h1]
    omega
termination_by l.length - k
end Go.Proofs.YtmmkeaokhbmgoaaGreatDoor
