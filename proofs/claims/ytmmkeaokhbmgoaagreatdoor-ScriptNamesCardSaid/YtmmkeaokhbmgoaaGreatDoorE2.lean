/- net: what there is. -/
import Derived.Test.YtmmkeaokhbmgoaaGreatDoorE1
namespace Go.Proofs.YtmmkeaokhbmgoaaGreatDoor
open Go.RowKit

/-- A network, in blocks that are not of F: the top, the cost of all, the sizes, the unary costs; the slot of the functions as it is. -/
structure Nt (w : World) (F : List Nat) (nb : Nat) (K zero : Int) (sizes : List Int) (un : List (List Int)) (A : Option Addr) (nf cf : Nat) : Prop where
  ex : ∃ fb s S c ff U uc rv, nb ∉ F ∧ fb ∉ F ∧ Blk w nb 127 #[.pointer (some ⟨fb, 0, none⟩), .int .i64 zero, .slice U un.length uc, .slice A nf cf] ∧
    Blk w fb 102 #[.string s, .int .i64 K, .slice S sizes.length c, ff] ∧ Sl w F 1 S sizes.length (sizes.map intV) ∧ Sl w F 1 U un.length rv ∧
    ∀ k (h : k < un.length), ∃ A c, rv[k]? = some (.slice A (un[k]).length c) ∧ Sl w F 1 A (un[k]).length (un[k].map intV)
  len : un.length = sizes.length
  same : ∀ k (h : k < un.length), ((un[k]).length : Int) = sizes[k]'(by omega)
  small : sizes.length ≤ 65536 ∧ nf ≤ 65536 ∧ ∀ x ∈ un, x.length ≤ 65536
section
variable {w : World} {F : List Nat} {nb : Nat} {K zero : Int} {sizes : List Int} {un : List (List Int)} {A : Option Addr} {nf cf : Nat}
theorem Nt.upd {w' : World} (h : Nt w F nb K zero sizes un A nf cf) (hu : Upd F w w') : Nt w' F nb K zero sizes un A nf cf := by
  obtain ⟨fb, s, S, c, ff, U, uc, rv, h1, h2, h3, h4, h5, h6, h7⟩ := h.ex
  exact ⟨⟨fb, s, S, c, ff, U, uc, rv, h1, h2, h3.upd hu h1, h4.upd hu h2, h5.upd hu, h6.upd hu, fun k hk => by
    obtain ⟨A, c, a, b⟩ := h7 k hk; exact ⟨A, c, a, b.upd hu⟩⟩, h.len, h.same, h.small⟩
theorem Nt.more {G : List Nat} (h : Nt w F nb K zero sizes un A nf cf) (hG : ∀ x ∈ G, x ∈ F ∨ w.heap.size ≤ x) : Nt w G nb K zero sizes un A nf cf := by
  obtain ⟨fb, s, S, c, ff, U, uc, rv, h1, h2, h3, h4, h5, h6, h7⟩ := h.ex
  exact ⟨⟨fb, s, S, c, ff, U, uc, rv, fun hx => (hG _ hx).elim h1 (by have := h3.lt; omega), fun hx => (hG _ hx).elim h2 (by have := h4.lt; omega), h3, h4, h5.more hG, h6.more hG, fun k hk => by
    obtain ⟨A, c, a, b⟩ := h7 k hk; exact ⟨A, c, a, b.more hG⟩⟩, h.len, h.same, h.small⟩
theorem ntZero (h : Nt w F nb K zero sizes un A nf cf) : Calls Tryz.prog 50 #[.pointer (some ⟨nb, 0, none⟩)] w fun e w' => e = .returned (.int .i64 zero) ∧ w = w' := by
  obtain ⟨fb, s, S, c, ff, U, uc, rv, h1, h2, h3, h4, h5, h6, h7⟩ := h.ex
  have k1 := h3.cell 1
  simp at k1
  clear h h1 h2 h3 h4 h5 h6 h7
  go_enter Tryz.func50, Tryz.ntmps50
  go_wp2_with fail
  go_ret
  exact ⟨rfl, rfl⟩
theorem ntN (h : Nt w F nb K zero sizes un A nf cf) : Calls Tryz.prog 51 #[.pointer (some ⟨nb, 0, none⟩)] w fun e w' => e = .returned (.int .i64 sizes.length) ∧ w = w' := by
  obtain ⟨fb, s, S, c, ff, U, uc, rv, h1, h2, h3, h4, h5, h6, h7⟩ := h.ex
  have k0 := h3.cell 0
  have k2 := h4.cell 2
  simp at k0 k2
  clear h h1 h2 h3 h4 h5 h6 h7
  go_enter Tryz.func51, Tryz.ntmps51
  go_wp2_with fail
  go_ret
  exact ⟨rfl, rfl⟩
theorem ntFuns (h : Nt w F nb K zero sizes un A nf cf) : Calls Tryz.prog 54 #[.pointer (some ⟨nb, 0, none⟩)] w fun e w' => e = .returned (.int .i64 nf) ∧ w = w' := by
  obtain ⟨fb, s, S, c, ff, U, uc, rv, h1, h2, h3, h4, h5, h6, h7⟩ := h.ex
  have k3 := h3.cell 3
  simp at k3
  clear h h1 h2 h3 h4 h5 h6 h7
  go_enter Tryz.func54, Tryz.ntmps54
  go_wp2_with fail
  go_ret
  exact ⟨rfl, rfl⟩
theorem ntK (h : Nt w F nb K zero sizes un A nf cf) : Calls Tryz.prog 158 #[.pointer (some ⟨nb, 0, none⟩)] w fun e w' => e = .returned (.int .i64 K) ∧ w = w' := by
  obtain ⟨fb, s, S, c, ff, U, uc, rv, h1, h2, h3, h4, h5, h6, h7⟩ := h.ex
  have k0 := h3.cell 0
  have k1 := h4.cell 1
  simp at k0 k1
  clear h h1 h2 h3 h4 h5 h6 h7
  go_enter Tryz.func158, Tryz.ntmps158
  go_wp2_with fail
  go_ret
  exact ⟨rfl, rfl⟩
theorem intV_one (l : List Int) : ∀ u ∈ l.map intV, u.oneCell' = true := by intro u hu; simp [intV] at hu; obtain ⟨x, _, rfl⟩ := hu; rfl
def rowAt (un : List (List Int)) (i : Int) : List Int := if 0 ≤ i then (un[i.toNat]?).getD [] else []
def UnPost (w : World) (un : List (List Int)) (i : Int) (e : Ending) (w' : World) : Prop :=
  ∃ n c A, e = .returned (.slice A n c) ∧ w'.ownsRow w.heap.size 2 1 (.slice A n c) n ((rowAt un i).map intV) ∧ n = (rowAt un i).length ∧ Upd [] w w'
theorem ntUnary (h : Nt w F nb K zero sizes un A nf cf) (i : Int) : Calls Tryz.prog 52 #[.pointer (some ⟨nb, 0, none⟩), .int .i64 i] w (UnPost w un i) := by
  have HN := Lib.hid (ntN h)
  obtain ⟨fb, s, S, c, ff, U, uc, rv, h1, h2, h3, h4, h5, h6, h7⟩ := h.ex
  have hlen := h.len
  have hsm := h.small
  by_cases hi : 0 ≤ i
  · by_cases hlt : i < sizes.length
    · obtain ⟨k, rfl⟩ := Int.eq_ofNat_of_zero_le hi
      have hk : k < un.length := by omega
      obtain ⟨A2, c2, hr, hs2⟩ := h7 k hk
      obtain ⟨ad, rfl, hc⟩ := h6.get (k := k) hk
      rw [List.getElem?_eq_getElem (by have := h6.1; omega)] at hr
      cases hr' : rv[k]'(by have := h6.1; omega) with
      | slice a b d =>
        rw [hr'] at hr hc
        cases hr
        have k2 := h3.cell 2
        simp at k2
        have e2 : rowAt un k = un[k] := by simp [rowAt, hk]
        have HP := Lib.hid (cloneInt64s_any F A2 (un[k]).length c2 ((un[k]).map intV) w hs2 (intV_one _) (hsm.2.2 _ (List.getElem_mem hk)))
        have HE := Lib.hid e2
        clear h h1 h2 h3 h4 h5 h6 h7 hs2 e2 hr'
        have hk2 : (k : Int) < un.length := by omega
        go_enter Tryz.func52, Tryz.ntmps52
        go_wp2_with (first | (go_at_call 51; refine HN.out.mono ?_; rintro e w' ⟨rfl, rfl⟩) | (go_at_call 126; refine HP.out.mono ?_; rintro e w' ⟨v, rfl, hown, hu⟩))
        go_ret
        obtain ⟨A5, c5, rfl, _⟩ := own_form hown
        refine ⟨_, c5, A5, rfl, ?_, ?_, hu⟩
        · rw [HE.out]; exact hown
        · rw [HE.out]
      | _ => rw [hr'] at hr; cases hr
    · have hge : ¬ i < sizes.length := hlt
      have HE : rowAt un i = [] := by
        unfold rowAt; rw [if_pos hi, List.getElem?_eq_none (by omega)]; rfl
      have HE := Lib.hid HE
      clear h h1 h2 h3 h4 h5 h6 h7
      go_enter Tryz.func52, Tryz.ntmps52
      go_wp2_with (go_at_call 51; refine HN.out.mono ?_; rintro e w' ⟨rfl, rfl⟩)
      go_ret
      exact ⟨0, 0, none, rfl, by rw [HE.out]; exact World.ownsRow_nil _ _ _ _, by rw [HE.out]; rfl, Upd.refl _ _⟩
  · have HE : rowAt un i = [] := by unfold rowAt; rw [if_neg hi]
    have HE := Lib.hid HE
    clear h h1 h2 h3 h4 h5 h6 h7
    go_enter Tryz.func52, Tryz.ntmps52
    go_wp2_with (go_at_call 51; refine HN.out.mono ?_; rintro e w' ⟨rfl, rfl⟩)
    go_ret
    exact ⟨0, 0, none, rfl, by rw [HE.out]; exact World.ownsRow_nil _ _ _ _, by rw [HE.out]; rfl, Upd.refl _ _⟩
def sizeAt (sizes : List Int) (i : Int) : Int := if 0 ≤ i then (sizes[i.toNat]?).getD 0 else 0
theorem ntSize (h : Nt w F nb K zero sizes un A nf cf) (i : Int) : Calls Tryz.prog 149 #[.pointer (some ⟨nb, 0, none⟩), .int .i64 i] w fun e w' => e = .returned (.int .i64 (sizeAt sizes i)) ∧ Upd [] w w' := by
  have HP := Lib.hid (ntUnary h i)
  have he : ((rowAt un i).length : Int) = sizeAt sizes i := by
    unfold sizeAt rowAt
    by_cases h0 : 0 ≤ i
    · simp only [if_pos h0]
      by_cases h1 : i.toNat < un.length
      · rw [List.getElem?_eq_getElem h1, List.getElem?_eq_getElem (by rw [← h.len]; exact h1)]
        exact h.same _ h1
      · rw [List.getElem?_eq_none (by omega), List.getElem?_eq_none (by rw [← h.len]; omega)]; rfl
    · simp only [if_neg h0]; rfl
  have HE := Lib.hid he
  clear he h
  go_enter Tryz.func149, Tryz.ntmps149
  go_wp2_with (go_at_call 52; refine HP.out.mono ?_; rintro e w' ⟨n, c, A, rfl, hown, hn, hu⟩)
  go_ret
  refine ⟨?_, hu⟩
  rw [← HE.out]
  subst hn
  rfl
end
end Go.Proofs.YtmmkeaokhbmgoaaGreatDoor
