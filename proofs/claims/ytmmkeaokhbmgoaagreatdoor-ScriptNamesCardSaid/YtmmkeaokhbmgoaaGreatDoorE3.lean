/- state.lay. -/
import Derived.Test.YtmmkeaokhbmgoaaGreatDoorE2
namespace Go.Proofs.YtmmkeaokhbmgoaaGreatDoor
open Go.RowKit

def stamp0 (vs : List Int) : List (Int × Int) := vs.map fun v => (v, 0)
def LayPost (w : World) (tb : Nat) (vc vo vm : Value) (ev : Int) (l : List (Int × Int)) (vs : List Int) (e : Ending) (w' : World) : Prop :=
  ∃ vc', e = .returned (.int .i64 l.length) ∧ Tr w' tb vc' vo vm ev (l ++ stamp0 vs) ∧ (∀ g, vc'.ownBlock = some g → vc.ownBlock = some g ∨ w.heap.size ≤ g) ∧
    ∀ F : List Nat, tb ∈ F → (∀ g, vc.ownBlock = some g → g ∈ F) → Upd F w w'

theorem laySlot (l : List (Int × Int)) (vs : List Int) (k : Nat) (h : k < vs.length) :
    ((l ++ stamp0 (vs.take k) ++ List.replicate (vs.length - k) ((0 : Int), (0 : Int))).set (l.length + k) (vs[k], 0)) = l ++ stamp0 (vs.take (k + 1)) ++ List.replicate (vs.length - (k + 1)) (0, 0) := by
  have e1 : vs.length - k = (vs.length - (k + 1)) + 1 := by omega
  have hl : (stamp0 (vs.take k)).length = k := by simp [stamp0]; omega
  rw [e1, List.replicate_succ, List.append_assoc, List.set_append_right (l.length + k) _ (by omega)]
  rw [show l.length + k - l.length = k by omega, List.set_append_right k _ (by omega), hl, Nat.sub_self, List.set_cons_zero]
  rw [List.take_add_one, List.getElem?_eq_getElem h]
  simp only [stamp0, List.map_append, Option.toList_some, List.map_cons, List.map_nil, List.append_assoc, List.cons_append, List.nil_append]
theorem layOld (l : List (Int × Int)) (vs : List Int) (k : Nat) (h : k < vs.length) (h2 : l.length + k < (l ++ stamp0 (vs.take k) ++ List.replicate (vs.length - k) ((0 : Int), (0 : Int))).length) :
    (l ++ stamp0 (vs.take k) ++ List.replicate (vs.length - k) ((0 : Int), (0 : Int)))[l.length + k].2 = 0 := by
  have hl : (stamp0 (vs.take k)).length = k := by simp [stamp0]; omega
  rw [List.getElem_append_right (by rw [List.length_append, hl]; omega)]
  simp

set_option maxHeartbeats 400000 in
theorem lay_any (w : World) (sb tb : Nat) (t : TypeId) (c0 c2 c3 c4 : Value) (hS : Blk w sb t #[c0, .pointer (some ⟨tb, 0, none⟩), c2, c3, c4]) (vc vo : Value) (A0 : Option Addr) (cm : Nat) (ev : Int) (l : List (Int × Int)) (hT : Tr w tb vc vo (.slice A0 0 cm) ev l)
    (hst : sb ≠ tb) (hsv : ∀ g, vc.ownBlock = some g → g ≠ sb) (vs : List Int) (A : Option Addr) (c : Nat) (hs : Sl w (tb :: vc.ownBlock.toList) 1 A vs.length (vs.map intV)) (h0 : 0 < vs.length) (hm : l.length + vs.length ≤ 1000000) :
    Calls Tryz.prog 53 #[.pointer (some ⟨sb, 0, none⟩), .slice A vs.length c] w (LayPost w tb vc vo (.slice A0 0 cm) ev l vs) := by
  have HG := Lib.hid (trGrow hT vs.length h0 hm)
  have k1 := hS.cell 1
  simp at k1
  have HB := Lib.hid hS; clear hS
  have HL := Lib.hid hs; clear hs
  have HM := Lib.hid hm; clear hm
  have HT := Lib.hid hT; clear hT
  have HSV := Lib.hid hsv; clear hsv
  go_enter Tryz.func53, Tryz.ntmps53
  go_wp2_with (go_at_call 128; refine HG.out.mono ?_; rintro e w1 ⟨vc1, rfl, hT1, hv1, hU1⟩)
  have hU0 := hU1 (tb :: vc.ownBlock.toList) (by simp) (by intro g hg; simp [hg])
  have hB1 := HB.out.upd hU0 (by simp; exact ⟨hst, fun h => HSV.out _ h rfl⟩)
  have hs1 : Sl w1 (tb :: vc1.ownBlock.toList) 1 A vs.length (vs.map intV) := by
    refine ((HL.out.more (G := tb :: vc.ownBlock.toList ++ vc1.ownBlock.toList) ?_).upd (hU1 _ (by simp) (by intro g hg; simp [hg]))).less (by intro x hx; simp at hx ⊢; rcases hx with h | h <;> simp [h])
    intro x hx
    simp at hx ⊢
    rcases hx with rfl | hx | hx
    · simp
    · simp [hx]
    · rcases hv1 x hx with h1 | h1
      · simp [h1]
      · exact .inr h1
  have hsv1 : ∀ g, vc1.ownBlock = some g → g ≠ sb := by
    intro g hg
    rcases hv1 g hg with h1 | h1
    · exact HSV.out g h1
    · have := HB.out.lt; omega
  have K1 := Lib.hid hs1
  have HV := Lib.hid hv1
  have HSV1 := Lib.hid hsv1
  have HU := Lib.hid hU1
  clear hs1 hv1 hsv1 hU0 hU1 k1 HL HSV HG
  go_loopw [17] (fun i wr => ∃ k : Nat, k ≤ vs.length ∧ i = .int .i64 k ∧ Tr wr tb vc1 vo (.slice A0 0 cm) ev (l ++ stamp0 (vs.take k) ++ List.replicate (vs.length - k) (0, 0)) ∧ Upd (tb :: vc1.ownBlock.toList) w1 wr) (fun i _ => vs.length - (intOf i).toNat)
  case atStart => exact ⟨0, by omega, rfl, by simpa [stamp0] using hT1, Upd.refl _ _⟩
  case round =>
    obtain ⟨k, hk, rfl, hTr, hUr⟩ := hrel
    by_cases hlt : k < vs.length
    · obtain ⟨ad, rfl, hc⟩ := (K1.out.upd hUr).get (k := k) hlt
      simp [intV] at hc
      have hBr := hB1.upd hUr (by simp; exact ⟨hst, fun h => HSV1.out _ h rfl⟩)
      have q1 := hBr.cell 1
      simp at q1
      have hlen : l.length + k < (l ++ stamp0 (vs.take k) ++ List.replicate (vs.length - k) ((0 : Int), (0 : Int))).length := by simp [stamp0]; omega
      have hst0 := trSet0 hTr (l.length + k) hlen vs[k]
      rw [layOld l vs k hlt hlen, laySlot l vs k hlt] at hst0
      have e1 : ((l.length + k : Nat) : Int) = (l.length : Int) + k := by omega
      rw [e1] at hst0
      have HS0 := Lib.hid hst0
      clear hst0 hlen hTr
      have hwr : IntKind.i64.wrap ((l.length : Int) + k) = (l.length : Int) + k := by rw [IntKind.wrap_i64]; have := HM.out; omega
      have hb : vs.length ≤ 1000000 := by have := HM.out; omega
      go_wp2_with (go_at_call 49; refine HS0.out.mono ?_; rintro e w2 ⟨rfl, hT2, hU2⟩)
      go_roundw
      case rel => exact ⟨k + 1, by omega, by go_num, hT2, hUr.trans (hU2 _ (by intro g hg; simp [hg]))⟩
      case measure => simp [intOf]; omega
    · obtain rfl : k = vs.length := by omega
      go_wp2_with fail
      go_ret
      refine ⟨vc1, rfl, by simpa using hTr, HV.out, fun F h1 h2 => ?_⟩
      refine (HU.out F h1 h2).then hUr ?_
      intro x hx
      simp at hx
      rcases hx with rfl | hx
      · exact .inl h1
      · rcases HV.out x hx with h3 | h3
        · exact .inl (h2 x h3)
        · exact .inr h3
end Go.Proofs.YtmmkeaokhbmgoaaGreatDoor
