/- wcsp.ints: numbers copied into new memory. -/
import Derived.Test.YtmmkeaokhbmgoaaGreatDoorS7
namespace Go.Proofs.YtmmkeaokhbmgoaaGreatDoor
open Go.RowKit
def intV (n : Int) : Value := .int .i64 n
theorem set_grow (xs : List Int) (k : Nat) (h : k < xs.length) : ((xs.take k).map intV ++ List.replicate (xs.length - k) (Value.int .i64 0)).set k (intV xs[k]) = (xs.take (k + 1)).map intV ++ List.replicate (xs.length - (k + 1)) (.int .i64 0) := by
  have e : xs.length - k = (xs.length - (k + 1)) + 1 := by omega
  have h1 : (xs.take (k + 1)).map intV = (xs.take k).map intV ++ [intV xs[k]] := by rw [List.take_succ_eq_append_getElem h, List.map_append]; rfl
  have h2 : k - ((xs.take k).map intV).length = 0 := by simp; omega
  rw [List.set_append, if_neg (by simp; omega), h1, e, List.replicate_succ, h2, List.set_cons_zero, List.append_assoc, List.singleton_append]
set_option maxHeartbeats 400000 in
theorem ints_any (A : Option Addr) (c : Nat) (xs : List Int) (w : World) (hs : Sl w [] 1 A xs.length (xs.map intV)) (hm : xs.length ≤ 65536) :
    Calls Tryz.prog 37 #[.slice A xs.length c] w (FreshRow 3 1 xs.length (xs.map intV) w) := by
  go_enter Tryz.func37, Tryz.ntmps37
  go_wp2_with (at_make; go_must (refine wpList_make_sl _ rfl _ _ rfl ty_ints _ xs.length rfl rfl rfl (by omega) (by unfold maxLen; omega) ?_); intro w1 hown hg)
  have hu1 : Upd [] w w1 := (Upd.refl [] w).grown hg (fun k hk => by cases hk)
  rw [made_one _ _ rfl] at hown
  clear hg
  go_loopw [11] (fun i wr => ∃ k : Nat, k ≤ xs.length ∧ i = .int .i64 k ∧ wr.ownsRow w.heap.size 3 1 (.slice (some ⟨w.heap.size, 0, none⟩) xs.length xs.length) xs.length ((xs.take k).map intV ++ List.replicate (xs.length - k) (.int .i64 0)) ∧ Upd [] w wr) (fun i _ => xs.length - (intOf i).toNat)
  case atStart => exact ⟨0, by omega, rfl, by simpa using hown, hu1⟩
  case round =>
    obtain ⟨k, hk, rfl, hown, hu⟩ := hrel
    by_cases hlt : k < xs.length
    · obtain ⟨ad, rfl, hc⟩ := (hs.upd hu).get hlt
      have hc' : wr.cell? (ad.add k) = some (.int .i64 xs[k]) := by rw [hc]; simp [intV]
      clear hc
      have hc2 := own_cell hown (j := k) (by omega)
      have hf2 := own_froz hown k
      have hs2 := own_set hown k (.int .i64 xs[k])
      rw [show (Value.int .i64 xs[k]) = intV xs[k] from rfl, set_grow xs k hlt] at hs2
      have HS := Lib.hid hs2; clear hs2
      go_wp2
      go_roundw
      case rel => exact ⟨k + 1, by omega, by go_num, HS.out, hu.setCell (.inr (Nat.le_refl _)) _⟩
      case measure => simp [intOf]; omega
    · have hkk : k = xs.length := by omega
      have HK := Lib.hid hkk; clear hkk
      go_wp2
      go_ret
      refine ⟨_, rfl, ?_, hu⟩
      rw [HK.out] at hown
      simpa using hown
end Go.Proofs.YtmmkeaokhbmgoaaGreatDoor
