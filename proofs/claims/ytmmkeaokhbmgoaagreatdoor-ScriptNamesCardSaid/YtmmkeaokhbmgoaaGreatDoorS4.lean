/- scan.Read: a word as a number. -/
import Derived.Test.YtmmkeaokhbmgoaaGreatDoorS1
import Derived.Test.YtmmkeaokhbmgoaaGreatDoorBase
import Derived.Deep.QuietTactic
import Derived.BigQuiet
import Derived.Lib.ConvBytes
namespace Go.Proofs.YtmmkeaokhbmgoaaGreatDoor
open Go.RowKit

def digs : List UInt8 → Int → Option Int
  | [], n => some n
  | b :: l, n => if 48 ≤ (b.toNat : Int) ∧ (b.toNat : Int) ≤ 57 then digs l (if (4611686018427387904 - ((b.toNat : Int) - 48)) / 10 < n then 4611686018427387904 else 10 * n + ((b.toNat : Int) - 48)) else none

/-- A word's number, and the error. -/
def readN (l : List UInt8) : Int × Int :=
  let m := if l.head? = some 45 then l.tail else l
  let s : Int := if l.head? = some 45 then -1 else 1
  if m = [] then (0, 4) else match digs m 0 with
  | some n => (s * n, 0)
  | none => (0, 4)

theorem size_mk (l : List UInt8) : (ByteArray.mk l.toArray).size = l.length := by simp [ByteArray.size]
theorem extract_mk (x : UInt8) (l : List UInt8) : (ByteArray.mk (x :: l).toArray).extract 1 (ByteArray.mk (x :: l).toArray).size = ⟨l.toArray⟩ := by
  apply ByteArray.ext
  simp [ByteArray.size]
theorem toList_mk (l : List UInt8) : (ByteArray.mk l.toArray).data.toList = l := by simp
theorem Upd.bytesWorld {F : List Nat} {a w : World} (h : Upd F a w) (e : TypeId) (s : ByteArray) : Upd F a (Lib.bytesWorld w e s) :=
  h.then_nil ⟨rfl, rfl, rfl, by rw [Lib.bytesWorld_size]; omega, fun k hk _ => Lib.bytesWorld_at_old w e s k hk⟩

theorem extract_mk' (x : UInt8) (l : List UInt8) : (ByteArray.mk (x :: l).toArray).extract 1 (l.length + 1) = ⟨l.toArray⟩ := by
  have := extract_mk x l; rw [size_mk] at this; simpa using this
theorem digs_le (l : List UInt8) : ∀ (n m : Int), 0 ≤ n → n ≤ 4611686018427387904 → digs l n = some m → 0 ≤ m ∧ m ≤ 4611686018427387904 := by
  induction l with
  | nil => intro n m h0 h1 h; simp [digs] at h; omega
  | cons b l ih =>
    intro n m h0 h1 h
    simp only [digs] at h
    split at h
    · rename_i hb
      refine ih _ m ?_ ?_ h <;> split <;> omega
    · cases h
theorem digs_drop {l : List UInt8} {k : Nat} (h : k < l.length) (n : Int) :
    digs (l.drop k) n = if 48 ≤ (l[k].toNat : Int) ∧ (l[k].toNat : Int) ≤ 57 then digs (l.drop (k + 1)) (if (4611686018427387904 - ((l[k].toNat : Int) - 48)) / 10 < n then 4611686018427387904 else 10 * n + ((l[k].toNat : Int) - 48)) else none := by
  rw [List.drop_eq_getElem_cons h]; rfl
theorem getD_lt {l : List UInt8} {k : Nat} (h : k < l.length) : l.getD k 0 = l[k] := by simp [List.getD_eq_getElem?_getD, h]


def ReadPost (m : List UInt8) (sg : Int) (w : World) (e : Ending) (w' : World) : Prop :=
  e = .returned (.tuple #[.int .i64 (match digs m 0 with | some n => sg * n | none => 0), .int .i64 (match digs m 0 with | some _ => 0 | none => 4)]) ∧ Upd [] w w'
theorem readPost_some {m : List UInt8} {sg n : Int} {w w' : World} (h : digs m 0 = some n) (hu : Upd [] w w') : ReadPost m sg w (.returned (.tuple #[.int .i64 (sg * n), .int .i64 0])) w' := by
  unfold ReadPost; rw [h]; exact ⟨rfl, hu⟩
theorem readPost_none {m : List UInt8} {sg : Int} {w w' : World} (h : digs m 0 = none) (hu : Upd [] w w') : ReadPost m sg w (.returned (.tuple #[.int .i64 0, .int .i64 4])) w' := by
  unfold ReadPost; rw [h]; exact ⟨rfl, hu⟩

set_option maxRecDepth 100000 in
set_option maxHeartbeats 1000000 in
theorem read_plus (L : List UInt8) (w : World) (hm : L.length ≤ 65536) (h0 : 0 < L.length) (hx : L[0] ≠ 45) :
    Calls Tryz.prog 95 #[.string ⟨L.toArray⟩] w (ReadPost L 1 w) := by
  have kc := fun (w : World) => Lib.run_convert_string_bytes (P := Tryz.prog) w 9 37 5 ⟨L.toArray⟩ Tryz.underlying9 Tryz.underlying37 Tryz.underlying5
  rw [size_mk] at kc
  have hidx : ∀ h, ((ByteArray.mk L.toArray)[0]'h) = L[0] := fun _ => rfl
  have hem : ¬ L = [] := by intro h; subst h; simp at h0
  have hem2 : L.isEmpty = false := by cases L <;> simp at h0 ⊢
  have hsz : (ByteArray.mk L.toArray).size = L.length := size_mk L
  have h45 : ((L[0].toNat : Int) == 45) = false := by
    rw [beq_eq_false_iff_ne]; intro h; apply hx; exact UInt8.toNat_inj.1 (by have e : UInt8.toNat 45 = 45 := rfl; omega)
  go_enter Tryz.func95, Tryz.ntmps95
  go_wp2
  obtain ⟨W, hW⟩ : ∃ W, W = Lib.bytesWorld w 5 ⟨L.toArray⟩ := ⟨_, rfl⟩
  rw [← hW]
  have hcell : ∀ j (h : j < L.length), W.cell? ⟨(w).heap.size, j, none⟩ = some (.int .u8 L[j].toNat) := fun j h => by
    have := Lib.bytesWorld_cell w 5 ⟨L.toArray⟩ j (by rw [size_mk]; exact h)
    rw [hW]; refine this.trans ?_; rw [toList_mk, getD_lt h]
  have hU : Upd [] w W := by rw [hW]; exact (Upd.refl _ w).bytesWorld _ _
  clear hW kc
  go_loop [23, 5] (fun i t => ∃ (k : Nat) (n : Int), k ≤ L.length ∧ i = .int .i64 k ∧ t = .int .i64 n ∧ 0 ≤ n ∧ n ≤ 4611686018427387904 ∧ digs L 0 = digs (L.drop k) n) (fun i _ => L.length - (intOf i).toNat)
  case atStart => exact ⟨0, 0, by omega, rfl, rfl, by omega, by omega, by simp⟩
  case round =>
    obtain ⟨k, n, hk, rfl, rfl, hn0, hn1, hs⟩ := hrel
    have HS := Lib.hid hs; clear hs
    by_cases hlt : k < L.length
    · have hc := hcell k hlt
      have hU1 := Lib.hid (digs_drop hlt n)
      have hb0 : (0 : Int) ≤ L[k].toNat := by omega
      have hb1 : (L[k].toNat : Int) ≤ 255 := by have := UInt8.toNat_lt L[k]; omega
      obtain ⟨b, hb⟩ : ∃ b : Int, b = L[k].toNat := ⟨_, rfl⟩
      rw [← hb] at hc hU1 hb0 hb1
      clear hcell hb
      by_cases h1 : 48 ≤ b
      · by_cases h2 : b ≤ 57
        · by_cases h3 : (4611686018427387904 - (b - 48)) / 10 < n
          · go_wp2
            go_round
            case rel => exact ⟨k + 1, _, by omega, by go_num, rfl, by omega, by omega, by rw [HS.out, hU1.out, if_pos ⟨h1, h2⟩, if_pos h3]⟩
            case measure => simp [intOf]; omega
          · go_wp2
            go_round
            case rel => exact ⟨k + 1, _, by omega, by go_num, rfl, by omega, by omega, by rw [HS.out, hU1.out, if_pos ⟨h1, h2⟩, if_neg h3]⟩
            case measure => simp [intOf]; omega
        · go_wp2
          go_ret2
          exact readPost_none (by rw [HS.out, hU1.out, if_neg (by omega)]) hU
      · go_wp2
        go_ret2
        exact readPost_none (by rw [HS.out, hU1.out, if_neg (by omega)]) hU
    · have hz : digs L 0 = some n := by rw [HS.out, List.drop_eq_nil_of_le (by omega)]; rfl
      have HZ := Lib.hid hz; clear hz
      go_wp2
      go_ret2
      have hf := readPost_some (sg := 1) HZ.out hU
      simp only [Int.one_mul] at hf
      exact hf


set_option maxRecDepth 100000 in
set_option maxHeartbeats 1000000 in
theorem read_minus (L : List UInt8) (w : World) (hm : L.length ≤ 65536) (h0 : 0 < L.length) :
    Calls Tryz.prog 95 #[.string ⟨(45 :: L).toArray⟩] w (ReadPost L (-1) w) := by
  have kc := fun (w : World) => Lib.run_convert_string_bytes (P := Tryz.prog) w 9 37 5 ⟨L.toArray⟩ Tryz.underlying9 Tryz.underlying37 Tryz.underlying5
  rw [size_mk] at kc
  have hidx : ∀ h, ((ByteArray.mk (45 :: L).toArray)[0]'h) = 45 := fun _ => rfl
  have hem : ¬ L = [] := by intro h; subst h; simp at h0
  have hem2 : L.isEmpty = false := by cases L <;> simp at h0 ⊢
  have hsz : (ByteArray.mk L.toArray).size = L.length := size_mk L
  have hex := extract_mk' 45 L
  have h45 : (((45 : UInt8).toNat : Int) == 45) = true := by decide
  go_enter Tryz.func95, Tryz.ntmps95
  go_wp2
  go_quiet (fail)
  go_wp2
  obtain ⟨W, hW⟩ : ∃ W, W = Lib.bytesWorld (w.drewN nq) 5 ⟨L.toArray⟩ := ⟨_, rfl⟩
  rw [← hW]
  have hcell : ∀ j (h : j < L.length), W.cell? ⟨(w).heap.size, j, none⟩ = some (.int .u8 L[j].toNat) := fun j h => by
    have := Lib.bytesWorld_cell (w.drewN nq) 5 ⟨L.toArray⟩ j (by rw [size_mk]; exact h)
    rw [hW]; refine this.trans ?_; rw [toList_mk, getD_lt h]
  have hU : Upd [] w W := by rw [hW]; exact ((Upd.refl _ w).drewN nq).bytesWorld _ _
  clear hW kc
  go_loop [23, 5] (fun i t => ∃ (k : Nat) (n : Int), k ≤ L.length ∧ i = .int .i64 k ∧ t = .int .i64 n ∧ 0 ≤ n ∧ n ≤ 4611686018427387904 ∧ digs L 0 = digs (L.drop k) n) (fun i _ => L.length - (intOf i).toNat)
  case atStart => exact ⟨0, 0, by omega, rfl, rfl, by omega, by omega, by simp⟩
  case round =>
    obtain ⟨k, n, hk, rfl, rfl, hn0, hn1, hs⟩ := hrel
    have HS := Lib.hid hs; clear hs
    by_cases hlt : k < L.length
    · have hc := hcell k hlt
      have hU1 := Lib.hid (digs_drop hlt n)
      have hb0 : (0 : Int) ≤ L[k].toNat := by omega
      have hb1 : (L[k].toNat : Int) ≤ 255 := by have := UInt8.toNat_lt L[k]; omega
      obtain ⟨b, hb⟩ : ∃ b : Int, b = L[k].toNat := ⟨_, rfl⟩
      rw [← hb] at hc hU1 hb0 hb1
      clear hcell hb
      by_cases h1 : 48 ≤ b
      · by_cases h2 : b ≤ 57
        · by_cases h3 : (4611686018427387904 - (b - 48)) / 10 < n
          · go_wp2
            go_round
            case rel => exact ⟨k + 1, _, by omega, by go_num, rfl, by omega, by omega, by rw [HS.out, hU1.out, if_pos ⟨h1, h2⟩, if_pos h3]⟩
            case measure => simp [intOf]; omega
          · go_wp2
            go_round
            case rel => exact ⟨k + 1, _, by omega, by go_num, rfl, by omega, by omega, by rw [HS.out, hU1.out, if_pos ⟨h1, h2⟩, if_neg h3]⟩
            case measure => simp [intOf]; omega
        · go_wp2
          go_ret2
          exact readPost_none (by rw [HS.out, hU1.out, if_neg (by omega)]) hU
      · go_wp2
        go_ret2
        exact readPost_none (by rw [HS.out, hU1.out, if_neg (by omega)]) hU
    · have hz : digs L 0 = some n := by rw [HS.out, List.drop_eq_nil_of_le (by omega)]; rfl
      have HZ := Lib.hid hz; clear hz
      go_wp2
      go_ret2
      have hf := readPost_some (sg := -1) HZ.out hU
      first | exact hf | (simp only [Int.neg_mul, Int.one_mul] at hf; exact hf)


theorem read_minus0 (w : World) : Calls Tryz.prog 95 #[.string ⟨[45].toArray⟩] w fun e w' => e = .returned (.tuple #[.int .i64 0, .int .i64 4]) ∧ Upd [] w w' := by
  have hidx : ∀ h, ((ByteArray.mk [45].toArray)[0]'h) = 45 := fun _ => rfl
  have hex : (ByteArray.mk [45].toArray).extract 1 1 = ⟨[].toArray⟩ := extract_mk' 45 []
  have h45 : (((45 : UInt8).toNat : Int) == 45) = true := by decide
  go_enter Tryz.func95, Tryz.ntmps95
  go_wp2
  go_quiet (fail)
  go_wp2
  go_ret2
  exact ⟨rfl, (Upd.refl _ _).drewN _⟩
theorem read_nil (w : World) : Calls Tryz.prog 95 #[.string ⟨[].toArray⟩] w fun e w' => e = .returned (.tuple #[.int .i64 0, .int .i64 4]) ∧ Upd [] w w' := by
  go_enter Tryz.func95, Tryz.ntmps95
  go_wp2
  go_ret2
  exact ⟨rfl, Upd.refl _ _⟩

theorem read_any (l : List UInt8) (w : World) (hm : l.length ≤ 65536) :
    Calls Tryz.prog 95 #[.string ⟨l.toArray⟩] w fun e w' => e = .returned (.tuple #[.int .i64 (readN l).1, .int .i64 (readN l).2]) ∧ Upd [] w w' := by
  match l, hm with
  | [], _ => exact read_nil w
  | x :: l, hm =>
    by_cases hx : x = 45
    · subst hx
      match l, hm with
      | [], _ => exact read_minus0 w
      | y :: l, hm =>
        refine (read_minus (y :: l) w (by simp at hm ⊢; omega) (by simp)).mono fun e w' h => ?_
        obtain ⟨rfl, hu⟩ := h
        refine ⟨?_, hu⟩
        simp [readN]
        cases digs (y :: l) 0 <;> simp
    · refine (read_plus (x :: l) w hm (by simp) hx).mono fun e w' h => ?_
      obtain ⟨rfl, hu⟩ := h
      refine ⟨?_, hu⟩
      simp [readN, hx]
      cases digs (x :: l) 0 <;> simp

end Go.Proofs.YtmmkeaokhbmgoaaGreatDoor
