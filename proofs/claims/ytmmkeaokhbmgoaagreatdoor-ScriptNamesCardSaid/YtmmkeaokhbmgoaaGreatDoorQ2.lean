/- The reference's Read of a word: the same number as the program's. -/
import Derived.Test.YtmmkeaokhbmgoaaGreatDoorS4
namespace Go.Proofs.YtmmkeaokhbmgoaaGreatDoor
open Go.RowKit

/-- The reference's number and flag, as the program's number. -/
def SatOf (n : Int) (far : Bool) (m : Int) : Prop := 0 ≤ n ∧ n ≤ 4611686018427387909 ∧ m = (if far = true ∨ 4611686018427387904 < n then 4611686018427387904 else n)
theorem sat_far {n d m : Int} {far : Bool} (h : SatOf n far m) (hd0 : 0 ≤ d) (hd1 : d ≤ 9) (hf : far = true ∨ 461168601842738790 < n) :
    (if (4611686018427387904 - d) / 10 < m then 4611686018427387904 else 10 * m + d) = 4611686018427387904 := by
  obtain ⟨h0, h1, hm⟩ := h
  by_cases h2 : far = true ∨ 4611686018427387904 < n
  · rw [if_pos h2] at hm
    rw [if_pos (by omega)]
  · rw [if_neg h2] at hm
    rcases hf with hf | hf
    · exact absurd (.inl hf) h2
    · rw [if_pos (by omega)]
theorem sat_add {n d m : Int} {far : Bool} (h : SatOf n far m) (hd0 : 0 ≤ d) (hd1 : d ≤ 9) (hf : far = false) (hn : n ≤ 461168601842738790) :
    SatOf (10 * n + d) false (if (4611686018427387904 - d) / 10 < m then 4611686018427387904 else 10 * m + d) := by
  obtain ⟨h0, h1, hm⟩ := h
  rw [if_neg (by rintro (h | h); · rw [hf] at h; cases h
                 · omega)] at hm
  subst hm
  refine ⟨by omega, by omega, ?_⟩
  by_cases h3 : 4611686018427387904 < 10 * m + d
  · rw [if_pos (by omega), if_pos (.inr h3)]
  · rw [if_neg (by omega), if_neg (by rintro (h | h); · cases h
                                      · exact h3 h)]

set_option maxRecDepth 100000 in
set_option maxHeartbeats 1000000 in
theorem rread_plus (L : List UInt8) (w : World) (hm : L.length ≤ 65536) (h0 : 0 < L.length) (hx : L[0] ≠ 45) :
    Calls Tryz.prog 104 #[.string ⟨L.toArray⟩] w (ReadPost L 1 w) := by
  have hidx0 : ∀ h, ((ByteArray.mk L.toArray)[0]'h) = L[0] := fun _ => rfl
  have hsz : (ByteArray.mk L.toArray).size = L.length := size_mk L
  have h45 : ((L[0].toNat : Int) == 45) = false := by
    rw [beq_eq_false_iff_ne]; intro h; apply hx; exact UInt8.toNat_inj.1 (by have e : UInt8.toNat 45 = 45 := rfl; omega)
  have hz : ((L.length : Int) == 0) = false := by rw [beq_eq_false_iff_ne]; omega
  go_enter Tryz.func104, Tryz.ntmps104
  go_wp2
  go_loop [7, 5, 6] (fun i t f => ∃ (k : Nat) (n : Int) (far : Bool) (m : Int), k ≤ L.length ∧ i = .int .i64 k ∧ t = .int .u64 n ∧ f = .bool far ∧ SatOf n far m ∧ digs L 0 = digs (L.drop k) m) (fun i _ _ => L.length - (intOf i).toNat)
  case atStart => exact ⟨0, 0, false, 0, by omega, rfl, rfl, rfl, ⟨by omega, by omega, rfl⟩, by simp⟩
  case round =>
    obtain ⟨k, n, far, m, hk, rfl, rfl, rfl, hsat, hs⟩ := hrel
    have HS := Lib.hid hs; clear hs
    have hn0 := hsat.1
    have hn1 := hsat.2.1
    by_cases hlt : k < L.length
    · have hidx : ∀ h, ((ByteArray.mk L.toArray)[k]'h) = L[k] := fun _ => rfl
      have hU1 := Lib.hid (digs_drop hlt m)
      have hb0 : (0 : Int) ≤ L[k].toNat := by omega
      have hb1 : (L[k].toNat : Int) ≤ 255 := by have := UInt8.toNat_lt L[k]; omega
      by_cases h1 : 48 ≤ (L[k].toNat : Int)
      · by_cases h2 : (L[k].toNat : Int) ≤ 57
        · by_cases h3 : 461168601842738790 < n
          · have hf := sat_far hsat (d := (L[k].toNat : Int) - 48) (by omega) (by omega) (.inr h3)
            have HF := Lib.hid hf; clear hf
            go_wp2
            go_round
            case rel => exact ⟨k + 1, n, true, 4611686018427387904, by omega, by go_num, rfl, rfl, ⟨hn0, hn1, by simp⟩, by rw [HS.out, hU1.out, if_pos ⟨h1, h2⟩, HF.out]⟩
            case measure => simp [intOf]; omega
          · cases far with
            | true =>
              have hf := sat_far hsat (d := (L[k].toNat : Int) - 48) (by omega) (by omega) (.inl rfl)
              have HF := Lib.hid hf; clear hf
              go_wp2
              go_round
              case rel => exact ⟨k + 1, n, true, 4611686018427387904, by omega, by go_num, rfl, rfl, ⟨hn0, hn1, by simp⟩, by rw [HS.out, hU1.out, if_pos ⟨h1, h2⟩, HF.out]⟩
              case measure => simp [intOf]; omega
            | false =>
              have hf := sat_add hsat (d := (L[k].toNat : Int) - 48) (by omega) (by omega) rfl (by omega)
              have HF := Lib.hid hf; clear hf
              go_wp2
              go_round
              case rel => exact ⟨k + 1, _, false, _, by omega, by go_num, rfl, rfl, HF.out, by rw [HS.out, hU1.out, if_pos ⟨h1, h2⟩]⟩
              case measure => simp [intOf]; omega
        · go_wp2
          go_ret2
          exact readPost_none (by rw [HS.out, hU1.out, if_neg (by omega)]) (Upd.refl _ _)
      · go_wp2
        go_ret2
        exact readPost_none (by rw [HS.out, hU1.out, if_neg (by omega)]) (Upd.refl _ _)
    · have hz : digs L 0 = some m := by rw [HS.out, List.drop_eq_nil_of_le (by omega)]; rfl
      have HZ := Lib.hid hz; clear hz
      have hfar : far = true ∨ 4611686018427387904 < n → ReadPost L 1 w (.returned (.tuple #[.int .i64 (1 * 4611686018427387904), .int .i64 0])) w := fun h => by
        have hm2 := hsat.2.2
        rw [if_pos h] at hm2
        exact readPost_some (by rw [HZ.out, hm2]) (Upd.refl _ _)
      have hnear : ¬ (far = true ∨ 4611686018427387904 < n) → ReadPost L 1 w (.returned (.tuple #[.int .i64 (1 * n), .int .i64 0])) w := fun h => by
        have hm2 := hsat.2.2
        rw [if_neg h] at hm2
        exact readPost_some (by rw [HZ.out, hm2]) (Upd.refl _ _)
      have HFAR := Lib.hid hfar; clear hfar
      have HNEAR := Lib.hid hnear; clear hnear hsat
      cases far with
      | true =>
        go_wp2
        go_ret2
        have hf := HFAR.out (.inl (by simp))
        first | exact hf | (simp only [Int.one_mul] at hf; exact hf)
      | false =>
        by_cases h3 : 4611686018427387904 < n
        · go_wp2
          go_ret2
          have hf := HFAR.out (.inr h3)
          first | exact hf | (simp only [Int.one_mul] at hf; exact hf)
        · go_wp2
          go_ret2
          have hf := HNEAR.out (by rintro (h | h); · simp at h
                                   · omega)
          first | exact hf | (simp only [Int.one_mul] at hf; exact hf)

set_option maxRecDepth 100000 in
set_option maxHeartbeats 1000000 in
theorem rread_minus (L : List UInt8) (w : World) (hm : L.length ≤ 65536) (h0 : 0 < L.length) :
    Calls Tryz.prog 104 #[.string ⟨(45 :: L).toArray⟩] w (ReadPost L (-1) w) := by
  have hidx0 : ∀ h, ((ByteArray.mk (45 :: L).toArray)[0]'h) = 45 := fun _ => rfl
  have hsz : (ByteArray.mk L.toArray).size = L.length := size_mk L
  have hex := extract_mk' 45 L
  have h45 : (((45 : UInt8).toNat : Int) == 45) = true := by decide
  have hz : ((L.length : Int) == 0) = false := by rw [beq_eq_false_iff_ne]; omega
  go_enter Tryz.func104, Tryz.ntmps104
  go_wp2
  go_loop [7, 5, 6] (fun i t f => ∃ (k : Nat) (n : Int) (far : Bool) (m : Int), k ≤ L.length ∧ i = .int .i64 k ∧ t = .int .u64 n ∧ f = .bool far ∧ SatOf n far m ∧ digs L 0 = digs (L.drop k) m) (fun i _ _ => L.length - (intOf i).toNat)
  case atStart => exact ⟨0, 0, false, 0, by omega, rfl, rfl, rfl, ⟨by omega, by omega, rfl⟩, by simp⟩
  case round =>
    obtain ⟨k, n, far, m, hk, rfl, rfl, rfl, hsat, hs⟩ := hrel
    have HS := Lib.hid hs; clear hs
    have hn0 := hsat.1
    have hn1 := hsat.2.1
    by_cases hlt : k < L.length
    · have hidx : ∀ h, ((ByteArray.mk L.toArray)[k]'h) = L[k] := fun _ => rfl
      have hU1 := Lib.hid (digs_drop hlt m)
      have hb0 : (0 : Int) ≤ L[k].toNat := by omega
      have hb1 : (L[k].toNat : Int) ≤ 255 := by have := UInt8.toNat_lt L[k]; omega
      by_cases h1 : 48 ≤ (L[k].toNat : Int)
      · by_cases h2 : (L[k].toNat : Int) ≤ 57
        · by_cases h3 : 461168601842738790 < n
          · have hf := sat_far hsat (d := (L[k].toNat : Int) - 48) (by omega) (by omega) (.inr h3)
            have HF := Lib.hid hf; clear hf
            go_wp2
            go_round
            case rel => exact ⟨k + 1, n, true, 4611686018427387904, by omega, by go_num, rfl, rfl, ⟨hn0, hn1, by simp⟩, by rw [HS.out, hU1.out, if_pos ⟨h1, h2⟩, HF.out]⟩
            case measure => simp [intOf]; omega
          · cases far with
            | true =>
              have hf := sat_far hsat (d := (L[k].toNat : Int) - 48) (by omega) (by omega) (.inl rfl)
              have HF := Lib.hid hf; clear hf
              go_wp2
              go_round
              case rel => exact ⟨k + 1, n, true, 4611686018427387904, by omega, by go_num, rfl, rfl, ⟨hn0, hn1, by simp⟩, by rw [HS.out, hU1.out, if_pos ⟨h1, h2⟩, HF.out]⟩
              case measure => simp [intOf]; omega
            | false =>
              have hf := sat_add hsat (d := (L[k].toNat : Int) - 48) (by omega) (by omega) rfl (by omega)
              have HF := Lib.hid hf; clear hf
              go_wp2
              go_round
              case rel => exact ⟨k + 1, _, false, _, by omega, by go_num, rfl, rfl, HF.out, by rw [HS.out, hU1.out, if_pos ⟨h1, h2⟩]⟩
              case measure => simp [intOf]; omega
        · go_wp2
          go_ret2
          exact readPost_none (by rw [HS.out, hU1.out, if_neg (by omega)]) (Upd.refl _ _)
      · go_wp2
        go_ret2
        exact readPost_none (by rw [HS.out, hU1.out, if_neg (by omega)]) (Upd.refl _ _)
    · have hz : digs L 0 = some m := by rw [HS.out, List.drop_eq_nil_of_le (by omega)]; rfl
      have HZ := Lib.hid hz; clear hz
      have hfar : far = true ∨ 4611686018427387904 < n → ReadPost L (-1) w (.returned (.tuple #[.int .i64 ((-1) * 4611686018427387904), .int .i64 0])) w := fun h => by
        have hm2 := hsat.2.2
        rw [if_pos h] at hm2
        exact readPost_some (by rw [HZ.out, hm2]) (Upd.refl _ _)
      have hnear : ¬ (far = true ∨ 4611686018427387904 < n) → ReadPost L (-1) w (.returned (.tuple #[.int .i64 ((-1) * n), .int .i64 0])) w := fun h => by
        have hm2 := hsat.2.2
        rw [if_neg h] at hm2
        exact readPost_some (by rw [HZ.out, hm2]) (Upd.refl _ _)
      have HFAR := Lib.hid hfar; clear hfar
      have HNEAR := Lib.hid hnear; clear hnear hsat
      cases far with
      | true =>
        go_wp2
        go_ret2
        have hf := HFAR.out (.inl (by simp))
        first | exact hf | (simp only [Int.one_mul, Int.neg_mul] at hf; exact hf)
      | false =>
        by_cases h3 : 4611686018427387904 < n
        · go_wp2
          go_ret2
          have hf := HFAR.out (.inr h3)
          first | exact hf | (simp only [Int.one_mul, Int.neg_mul] at hf; exact hf)
        · go_wp2
          go_ret2
          have hf := HNEAR.out (by rintro (h | h); · simp at h
                                   · omega)
          first | exact hf | (simp only [Int.one_mul, Int.neg_mul] at hf; exact hf)

theorem rread_minus0 (w : World) : Calls Tryz.prog 104 #[.string ⟨[45].toArray⟩] w fun e w' => e = .returned (.tuple #[.int .i64 0, .int .i64 4]) ∧ Upd [] w w' := by
  have hidx : ∀ h, ((ByteArray.mk [45].toArray)[0]'h) = 45 := fun _ => rfl
  have hex : (ByteArray.mk [45].toArray).extract 1 1 = ⟨[].toArray⟩ := extract_mk' 45 []
  have h45 : (((45 : UInt8).toNat : Int) == 45) = true := by decide
  go_enter Tryz.func104, Tryz.ntmps104
  go_wp2
  go_ret2
  exact ⟨rfl, Upd.refl _ _⟩
theorem rread_nil (w : World) : Calls Tryz.prog 104 #[.string ⟨[].toArray⟩] w fun e w' => e = .returned (.tuple #[.int .i64 0, .int .i64 4]) ∧ Upd [] w w' := by
  go_enter Tryz.func104, Tryz.ntmps104
  go_wp2
  go_ret2
  exact ⟨rfl, Upd.refl _ _⟩

theorem rread_any (l : List UInt8) (w : World) (hm : l.length ≤ 65536) :
    Calls Tryz.prog 104 #[.string ⟨l.toArray⟩] w fun e w' => e = .returned (.tuple #[.int .i64 (readN l).1, .int .i64 (readN l).2]) ∧ Upd [] w w' := by
  match l, hm with
  | [], _ => exact rread_nil w
  | x :: l, hm =>
    by_cases hx : x = 45
    · subst hx
      match l, hm with
      | [], _ => exact rread_minus0 w
      | y :: l, hm =>
        refine (rread_minus (y :: l) w (by simp at hm ⊢; omega) (by simp)).mono fun e w' h => ?_
        obtain ⟨rfl, hu⟩ := h
        refine ⟨?_, hu⟩
        simp [readN]
        cases digs (y :: l) 0 <;> simp
    · refine (rread_plus (x :: l) w hm (by simp) hx).mono fun e w' h => ?_
      obtain ⟨rfl, hu⟩ := h
      refine ⟨?_, hu⟩
      simp [readN, hx]
      cases digs (x :: l) 0 <;> simp
end Go.Proofs.YtmmkeaokhbmgoaaGreatDoor
