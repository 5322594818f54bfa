/- The law ScriptNames, at every operation. -/
import Derived.Test.YtmmkeaokhbmgoaaGreatDoorJ3
import Derived.Deep.Cut
import Derived.Lib.SlBytesConst
namespace Go.Proofs.YtmmkeaokhbmgoaaGreatDoor
open Go.RowKit Go.Shelf

def ParsOk (k : Int) : Prop := -9223372036854775808 ≤ k ∧ k ≤ 9223372036854775807

/-- The three operations lie as they were laid. -/
def Three (w' : World) (ob tb2 lb2 : Nat) (k0 k2 a b c d : Int) : Prop :=
  w'.cell? ⟨ob, 0, none⟩ = some (.int .i64 k0) ∧ w'.cell? ⟨ob, 1, none⟩ = some (.int .i64 a) ∧ w'.cell? ⟨ob, 2, none⟩ = some (.int .i64 b) ∧ w'.cell? ⟨ob, 3, none⟩ = some (.int .i64 c) ∧ w'.cell? ⟨ob, 4, none⟩ = some (.int .i64 d) ∧ w'.cell? ⟨tb2, 0, none⟩ = some (.int .i64 k2) ∧ w'.cell? ⟨tb2, 1, none⟩ = some (.int .i64 a) ∧ w'.cell? ⟨tb2, 2, none⟩ = some (.int .i64 b) ∧ w'.cell? ⟨tb2, 3, none⟩ = some (.int .i64 c) ∧ w'.cell? ⟨tb2, 4, none⟩ = some (.int .i64 d) ∧ w'.cell? ⟨lb2, 0, none⟩ = some (.int .i64 6) ∧ w'.cell? ⟨lb2, 1, none⟩ = some (.int .i64 a) ∧ w'.cell? ⟨lb2, 2, none⟩ = some (.int .i64 0) ∧ w'.cell? ⟨lb2, 3, none⟩ = some (.int .i64 0) ∧ w'.cell? ⟨lb2, 4, none⟩ = some (.int .i64 0)
theorem three_of {W w' : World} {ob tb2 lb2 : Nat} {k0 k2 a b c d : Int} (h1 : Blk W ob 23 #[.int .i64 k0, .int .i64 a, .int .i64 b, .int .i64 c, .int .i64 d]) (h2 : Blk W tb2 23 #[.int .i64 k2, .int .i64 a, .int .i64 b, .int .i64 c, .int .i64 d]) (h3 : Blk W lb2 23 #[.int .i64 6, .int .i64 a, .int .i64 0, .int .i64 0, .int .i64 0]) (hu : Upd [] W w') : Three w' ob tb2 lb2 k0 k2 a b c d := by
  have h1 := h1.upd hu (by simp)
  have h2 := h2.upd hu (by simp)
  have h3 := h3.upd hu (by simp)
  exact ⟨h1.cell 0, h1.cell 1, h1.cell 2, h1.cell 3, h1.cell 4, h2.cell 0, h2.cell 1, h2.cell 2, h2.cell 3, h2.cell 4, h3.cell 0, h3.cell 1, h3.cell 2, h3.cell 3, h3.cell 4⟩

set_option maxRecDepth 100000 in
set_option maxHeartbeats 40000000 in
theorem names0 (k a b c d : Int) (hk : ParsOk k) (w : World) (htab : w.cell? ⟨0, 0, none⟩ = some (.int .u8 0)) :
    Calls Tryz.prog 3 #[.agg #[.int .i64 k, .int .i64 a, .int .i64 b, .int .i64 c, .int .i64 d]] w fun e w' => e = .returned (.bool true) ∧ Upd [] w w' := by
  unfold ParsOk at hk
  go_enter Tryz.func3, Tryz.ntmps3
  go_wp2_with fail
  obtain ⟨W, hW⟩ : ∃ W, W = w.alloc (.cells #[.int .i64 k, .int .i64 a, .int .i64 b, .int .i64 c, .int .i64 d] 23) := ⟨_, rfl⟩
  have hu : Upd [] w W := by rw [hW]; exact (Upd.refl _ _).alloc _
  obtain ⟨ob, hob⟩ : ∃ ob, ob = w.heap.size := ⟨_, rfl⟩
  have hBo : Blk W ob 23 #[.int .i64 k, .int .i64 a, .int .i64 b, .int .i64 c, .int .i64 d] := by rw [hW, hob]; exact Blk.new _ _ _
  rw [← hW, ← hob]
  have htW := hu.cell htab (by simp)
  clear hW hob
  refine (awake0 W).mono ?_
  rintro e w1 ⟨rfl, hu1⟩
  have hBo1 := hBo.upd hu1 (by simp)
  go_upto_region 5 with fail
  obtain ⟨W2, hW2⟩ : ∃ W2, W2 = w1.alloc (.cells namesA 9) := ⟨_, rfl⟩
  have hu2 : Upd [] w1 W2 := by rw [hW2]; exact (Upd.refl _ _).alloc _
  obtain ⟨na, hna⟩ : ∃ na, na = w1.heap.size := ⟨_, rfl⟩
  have hBn : Blk W2 na 9 namesA := by rw [hW2, hna]; exact Blk.new _ _ _
  unfold namesA at hW2
  rw [← hW2, ← hna]
  clear hW2 hna
  have hBo2 := hBo1.upd hu2 (by simp)
  have o0 := hBo2.cell 0; have o1 := hBo2.cell 1; have o2 := hBo2.cell 2; have o3 := hBo2.cell 3; have o4 := hBo2.cell 4
  simp at o0 o1 o2 o3 o4
  have ht2 := (hu1.then_nil hu2).cell htW (by simp)
  have hu02 := (hu.trans hu1).trans hu2
  have HBO := Lib.hid hBo2
  clear hBo hBo1 hBo2 htab htW
  obtain ⟨inr, hin⟩ : ∃ inr : Bool, inr = (decide (0 ≤ k) && decide (k < 11)) := ⟨_, rfl⟩
  go_cut [23] from 14 (fun s23 wx => s23 = .bool inr ∧ W2 = wx)
  case first =>
    by_cases c1 : 0 ≤ k
    · by_cases c2 : k < 11
      · have e : inr = true := by simp [hin, c1, c2]
        subst e
        clear hin
        go_wp2_with fail
        go_meet
        case rel => exact ⟨rfl, rfl⟩
      · have e : inr = false := by rw [hin]; simp [c2]
        subst e
        clear hin
        go_wp2_with fail
        go_meet
        case rel => exact ⟨rfl, rfl⟩
    · have e : inr = false := by rw [hin]; simp [c1]
      subst e
      clear hin
      go_wp2_with fail
      go_meet
      case rel => exact ⟨rfl, rfl⟩
  obtain ⟨rfl, rfl⟩ := hcut
  go_upto_if 23 with fail
  go_cut [4] from 14 (fun s4 wx => s4 = .string (nameV k) ∧ W2 = wx)
  case first =>
    by_cases c1 : 0 ≤ k ∧ k < 11
    · have e : inr = true := by simp [hin, c1]
      subst e
      obtain ⟨n, rfl⟩ := Int.eq_ofNat_of_zero_le c1.1
      have hn : n < 11 := by omega
      have hcn := hBn.cell n
      rw [namesA_get n hn] at hcn
      have c5 : (n : Int) < 11 := by omega
      have c6 : (0 : Int) ≤ n := by omega
      clear hin c1
      go_wp2_with fail
      go_meet
      case rel => exact ⟨rfl, rfl⟩
    · have e : inr = false := by
        rw [hin, Bool.and_eq_false_iff]; simp only [decide_eq_false_iff_not]; omega
      subst e
      have hn := nameV_out k (by omega)
      clear hin
      go_wp2_with fail
      go_meet
      case rel => exact ⟨by rw [hn]; rfl, rfl⟩
  obtain ⟨rfl, rfl⟩ := hcut
  have kc := Lib.run_convert_bytes_const (P := Tryz.prog) W2 37 5 #[.int .u8 116, .int .u8 32, .int .u8 49, .int .u8 32, .int .u8 49, .int .u8 32, .int .u8 48, .int .u8 32, .int .u8 49, .int .u8 32, .int .u8 49] 11 11 Tryz.underlying37 Tryz.underlying5
  simp only [List.size_toArray, List.length_cons, List.length_nil, Nat.reduceAdd] at kc
  go_wp2_with fail
  obtain ⟨W3, hW3⟩ : ∃ W3, W3 = W2.alloc (.cells #[.int .u8 116, .int .u8 32, .int .u8 49, .int .u8 32, .int .u8 49, .int .u8 32, .int .u8 48, .int .u8 32, .int .u8 49, .int .u8 32, .int .u8 49] 5 (11, 12)) := ⟨_, rfl⟩
  have hu3 : Upd [] W2 W3 := by rw [hW3]; exact (Upd.refl _ _).alloc _
  have hs3 : Sl W3 [] 1 (some ⟨W2.heap.size, 0, none⟩) 11 (L0.map byteV) := by
    rw [hW3]
    refine ⟨rfl, fun _ => ⟨_, rfl, by simp, by simp, fun j u hj => ?_⟩⟩
    rw [add_plain, Nat.zero_add, World.cell?_alloc_mark]
    rw [← hj]
    have e1 : (L0.map byteV) = (#[.int .u8 116, .int .u8 32, .int .u8 49, .int .u8 32, .int .u8 49, .int .u8 32, .int .u8 48, .int .u8 32, .int .u8 49, .int .u8 32, .int .u8 49] : Array Value).toList := rfl
    rw [e1, Array.getElem?_toList]
  rw [← hW3]
  clear hW3 kc
  refine (made0 _ 11 W3 hs3 (by decide)).mono ?_
  rintro e w4 ⟨sb, nb, tb, vc, V, ⟨S, sc, dd, dc, gg, gc, uu, uc, rfl⟩, hSt, hNt, hu4⟩
  have hu24 := hu3.trans hu4
  have H4 := Lib.hid (One.mk hSt hNt (hu24.cell ht2 (by simp)))
  clear hSt hNt
  go_upto_region 10 with fail
  obtain ⟨W5, hW5⟩ : ∃ W5, W5 = w4.alloc (.cells #[.int .i64 1, .slice S 1 sc, .int .i64 0, .slice dd 1 dc, .slice gg 1 gc, .slice uu 1 uc, .slice none 0 0, .slice none 0 0] 34) := ⟨_, rfl⟩
  have hu5 : Upd [] w4 W5 := by rw [hW5]; exact (Upd.refl _ _).alloc _
  rw [← hW5]
  clear hW5
  have H5 := Lib.hid (H4.out.fresh hu5)
  have hu05 := (hu02.trans hu24).trans hu5
  have BO5 := Lib.hid (HBO.out.upd (hu24.trans hu5) (by simp))
  have u0 := BO5.out.cell 0; have u1 := BO5.out.cell 1; have u2 := BO5.out.cell 2; have u3 := BO5.out.cell 3; have u4 := BO5.out.cell 4
  have v0 : ∀ o, (W5.alloc o).cell? ⟨ob, 0, none⟩ = _ := fun o => (BO5.out.alloc o).cell 0
  have v1 : ∀ o, (W5.alloc o).cell? ⟨ob, 1, none⟩ = _ := fun o => (BO5.out.alloc o).cell 1
  simp at u0 u1 u2 u3 u4 v0 v1
  clear o0 o1 o2 o3 o4 hu24 hu3 hu4 hs3 ht2 hBn
  go_upto_region 12 with fail
  obtain ⟨k2, hk2e, hk2⟩ : ∃ k2 : Int, k2 = 11 + (if k < 0 then 0 else k) % 100 ∧ 11 ≤ k2 := ⟨_, rfl, by omega⟩
  rw [← hk2e]
  clear hk2e
  generalize (if k < 0 then (0 : Int) else k) = mm
  obtain ⟨W6, hW6⟩ : ∃ W6, W6 = W5.alloc (.cells #[.int .i64 k2, .int .i64 a, .int .i64 b, .int .i64 c, .int .i64 d] 23) := ⟨_, rfl⟩
  have hu6 : Upd [] W5 W6 := by rw [hW6]; exact (Upd.refl _ _).alloc _
  obtain ⟨tb2, htb2⟩ : ∃ tb2, tb2 = W5.heap.size := ⟨_, rfl⟩
  have bT : Blk W6 tb2 23 #[.int .i64 k2, .int .i64 a, .int .i64 b, .int .i64 c, .int .i64 d] := by rw [hW6, htb2]; exact Blk.new _ _ _
  rw [← hW6, ← htb2]
  clear hW6 htb2 v0 v1
  have w1' := hu6.cell u1 (by simp)
  go_upto_region 13 with fail
  obtain ⟨W7, hW7⟩ : ∃ W7, W7 = W6.alloc (.cells #[.int .i64 6, .int .i64 a, .int .i64 0, .int .i64 0, .int .i64 0] 23) := ⟨_, rfl⟩
  have hu7 : Upd [] W6 W7 := by rw [hW7]; exact (Upd.refl _ _).alloc _
  obtain ⟨lb2, hlb2⟩ : ∃ lb2, lb2 = W6.heap.size := ⟨_, rfl⟩
  have bL : Blk W7 lb2 23 #[.int .i64 6, .int .i64 a, .int .i64 0, .int .i64 0, .int .i64 0] := by rw [hW7, hlb2]; exact Blk.new _ _ _
  rw [← hW7, ← hlb2]
  clear hW7 hlb2
  have hu57 := hu6.trans hu7
  have H7 := Lib.hid (H5.out.fresh hu57)
  have BO7 := Lib.hid (BO5.out.upd hu57 (by simp))
  have BT7 := Lib.hid (bT.upd hu7 (by simp))
  have BL7 := Lib.hid bL
  have x1 := BO7.out.cell 1
  simp at x1
  have hu07 := hu05.trans hu57
  clear u0 u1 u2 u3 u4 w1' bT bL
  have HT := Lib.hid (fun w' (hu : Upd [] W7 w') => three_of BO7.out BT7.out BL7.out hu)
  obtain ⟨rt, hrt⟩ : ∃ rt : Bool, rt = (decide (0 ≤ a) && decide (a ≤ 4)) := ⟨_, rfl⟩
  go_cut [10] from 14 (fun s10 wx => s10 = .bool rt ∧ W7 = wx)
  case first =>
    by_cases c1 : 0 ≤ a
    · by_cases c2 : a ≤ 4
      · have e : rt = true := by simp [hrt, c1, c2]
        subst e
        clear hrt
        go_wp2_with fail
        go_meet
        case rel => exact ⟨rfl, rfl⟩
      · have e : rt = false := by rw [hrt]; simp [c2]
        subst e
        clear hrt
        go_wp2_with fail
        go_meet
        case rel => exact ⟨rfl, rfl⟩
    · have e : rt = false := by rw [hrt]; simp [c1]
      subst e
      clear hrt
      go_wp2_with fail
      go_meet
      case rel => exact ⟨rfl, rfl⟩
  obtain ⟨rfl, rfl⟩ := hcut
  have HD := Lib.hid (fun w' (hu : Upd [] W7 w') => doLevel (H7.out.fresh hu) a 0 0 0)
  go_upto_region 14 with fail
  have hsafe : ∃ b0 b4 b6 : Bool, decide (0 ≤ k) = b0 ∧ decide (k ≤ 4) = b4 ∧ (k == 6) = b6 ∧ safeK k = (b0 && b4 || b6) ∧ (b0 = true ∧ b4 = true ∨ b0 = false ∧ b6 = false ∨ b0 = true ∧ b4 = false) := by
    refine ⟨_, _, _, rfl, rfl, rfl, rfl, ?_⟩
    simp only [decide_eq_true_eq, decide_eq_false_iff_not, beq_eq_false_iff_ne, ne_eq]
    omega
  obtain ⟨b0, b4, b6, hb0, hb4, hb6, hsf, hway⟩ := hsafe
  obtain ⟨lv, hlv, hl1⟩ : ∃ lv : Int, (if 0 ≤ a ∧ a ≤ 4 then (0 : Int) else 1) = lv ∧ (lv == 1) = !rt := by
    refine ⟨_, rfl, ?_⟩
    rw [hrt]
    by_cases h : 0 ≤ a ∧ a ≤ 4
    · rw [if_pos h]; simp [h]
    · rw [if_neg h]
      have : (decide (0 ≤ a) && decide (a ≤ 4)) = false := by rw [Bool.and_eq_false_iff]; simp only [decide_eq_false_iff_not]; omega
      simp [this]
  rw [hlv] at HD
  clear hrt hlv H7 BO7 BT7 BL7 x1 HBO BO5 H5 H4 hk
  have HSF := Lib.hid hsf
  clear hsf
  have FIN := Lib.hid hu07
  clear hu07 hu57 hu7 hu6
  rcases hway with ⟨rfl, rfl⟩ | ⟨rfl, rfl⟩ | ⟨rfl, rfl⟩
  all_goals simp only [Bool.and_self, Bool.true_or, Bool.false_and, Bool.or_self, Bool.and_false, Bool.false_or] at HSF
  rotate_left 2
  · go_region_held3 (fun w' => (w'.cell? ⟨ob, 0, none⟩ = some (.int .i64 k) ∧ w'.cell? ⟨ob, 1, none⟩ = some (.int .i64 a) ∧ w'.cell? ⟨ob, 2, none⟩ = some (.int .i64 b) ∧ w'.cell? ⟨ob, 3, none⟩ = some (.int .i64 c) ∧ w'.cell? ⟨ob, 4, none⟩ = some (.int .i64 d) ∧ w'.cell? ⟨tb2, 0, none⟩ = some (.int .i64 k2) ∧ w'.cell? ⟨tb2, 1, none⟩ = some (.int .i64 a) ∧ w'.cell? ⟨tb2, 2, none⟩ = some (.int .i64 b) ∧ w'.cell? ⟨tb2, 3, none⟩ = some (.int .i64 c) ∧ w'.cell? ⟨tb2, 4, none⟩ = some (.int .i64 d) ∧ w'.cell? ⟨lb2, 0, none⟩ = some (.int .i64 6) ∧ w'.cell? ⟨lb2, 1, none⟩ = some (.int .i64 a) ∧ w'.cell? ⟨lb2, 2, none⟩ = some (.int .i64 0) ∧ w'.cell? ⟨lb2, 3, none⟩ = some (.int .i64 0) ∧ w'.cell? ⟨lb2, 4, none⟩ = some (.int .i64 0)) ∧ Upd [] W7 w')
            (first | exact ⟨HT.out _ ((Upd.refl _ _).drew), (Upd.refl _ _).drew⟩ | exact ⟨HT.out _ hE, hE⟩ | exact ⟨HT.out _ hD', hD'⟩ | exact ⟨HT.out _ hC', hC'⟩ | exact ⟨HT.out _ hB', hB'⟩ | exact ⟨HT.out _ hA', hA'⟩)
            (first | (have hq := hD'; go_at_call 8; refine (HD.out wD hD').mono ?_; rintro e wE ⟨rfl, hE0⟩; have hE : Upd [] W7 wE := hD'.trans hE0; clear hq) | (have hq := hC'; go_at_call 8; refine (doArg sb k2 a b c d hk2 wC).mono ?_; rintro e wD ⟨rfl, hD⟩; have hD' : Upd [] W7 wD := hC'.trans hD; clear hq) | (have hq := hB'; go_at_call 8; refine (doNil k a b c d wB).mono ?_; rintro e wC ⟨rfl, hC⟩; have hC' : Upd [] W7 wC := hB'.trans hC; clear hq) | (have hq := hA'; go_at_call 7; refine (HSF.out ▸ scriptSafe k a b c d wA).mono ?_; rintro e wB ⟨rfl, hB⟩; have hB' : Upd [] W7 wB := hA'.trans hB; clear hq) | (go_at_call 6; refine (scriptName k _).mono ?_; rintro e wA ⟨rfl, hA⟩; have hA' : Upd [] W7 wA := ((Upd.refl _ _).drew).trans hA))
    go_wp2_with fail
    go_ret
    exact ⟨rfl, FIN.out.trans hE⟩
  all_goals
    refine wp_region_noPanic ?_
    refine wp_region_held_drew (S := fun w' => (w'.cell? ⟨ob, 0, none⟩ = some (.int .i64 k) ∧ w'.cell? ⟨ob, 1, none⟩ = some (.int .i64 a) ∧ w'.cell? ⟨ob, 2, none⟩ = some (.int .i64 b) ∧ w'.cell? ⟨ob, 3, none⟩ = some (.int .i64 c) ∧ w'.cell? ⟨ob, 4, none⟩ = some (.int .i64 d) ∧ w'.cell? ⟨tb2, 0, none⟩ = some (.int .i64 k2) ∧ w'.cell? ⟨tb2, 1, none⟩ = some (.int .i64 a) ∧ w'.cell? ⟨tb2, 2, none⟩ = some (.int .i64 b) ∧ w'.cell? ⟨tb2, 3, none⟩ = some (.int .i64 c) ∧ w'.cell? ⟨tb2, 4, none⟩ = some (.int .i64 d) ∧ w'.cell? ⟨lb2, 0, none⟩ = some (.int .i64 6) ∧ w'.cell? ⟨lb2, 1, none⟩ = some (.int .i64 a) ∧ w'.cell? ⟨lb2, 2, none⟩ = some (.int .i64 0) ∧ w'.cell? ⟨lb2, 3, none⟩ = some (.int .i64 0) ∧ w'.cell? ⟨lb2, 4, none⟩ = some (.int .i64 0)) ∧ Upd [] W7 w') (by kernel_rfl) ⟨HT.out _ ((Upd.refl _ _).drew), (Upd.refl _ _).drew⟩ (fun hHeld => ?_)
    first | (refine wpAnyH_take (i := 0) (v := ?_) (by first | (simp only [List.getElem?_toArray, List.getElem?_cons_zero]; done) | (simp only [List.getElem?_toArray, List.getElem?_cons_zero]; rfl)) (by kernel_rfl) (by kernel_rfl) (by kernel_rfl) (fun _ _ _ h => h) (Or.inl ⟨by rfl, ?_⟩) (by assumption) ?_; rotate_left; focus (intro w hSw; (try dsimp only at hSw); go_simp; (try with_reducible rfl))) | (refine wpAnyH_take (i := 0) (v := undef) (by first | (simp only [List.getElem?_toArray, List.getElem?_cons_zero]; done) | (simp only [List.getElem?_toArray, List.getElem?_cons_zero]; rfl)) (by kernel_rfl) (by kernel_rfl) (by kernel_rfl) (fun _ _ _ h => h) (Or.inr ⟨by rfl, by rfl⟩) (by assumption) ?_)
    try simp only [Act.put, List.setIfInBounds_toArray, List.set_cons_zero, List.set_cons_succ]
    first | (refine wpAnyH_take (i := 1) (v := ?_) (by first | (simp only [List.getElem?_toArray, List.getElem?_cons_zero, List.getElem?_cons_succ]; done) | (simp only [List.getElem?_toArray, List.getElem?_cons_zero, List.getElem?_cons_succ]; rfl)) (by kernel_rfl) (by kernel_rfl) (by kernel_rfl) (fun _ _ _ h => h) (Or.inl ⟨by rfl, ?_⟩) (by assumption) ?_; rotate_left; focus (intro w hSw; (try dsimp only at hSw); go_simp; (try with_reducible rfl))) | (refine wpAnyH_take (i := 1) (v := undef) (by first | (simp only [List.getElem?_toArray, List.getElem?_cons_zero, List.getElem?_cons_succ]; done) | (simp only [List.getElem?_toArray, List.getElem?_cons_zero, List.getElem?_cons_succ]; rfl)) (by kernel_rfl) (by kernel_rfl) (by kernel_rfl) (fun _ _ _ h => h) (Or.inr ⟨by rfl, by rfl⟩) (by assumption) ?_)
    try simp only [Act.put, List.setIfInBounds_toArray, List.set_cons_zero, List.set_cons_succ]
    first | (refine wpAnyH_take (i := 3) (v := ?_) (by first | (simp only [List.getElem?_toArray, List.getElem?_cons_zero, List.getElem?_cons_succ]; done) | (simp only [List.getElem?_toArray, List.getElem?_cons_zero, List.getElem?_cons_succ]; rfl)) (by kernel_rfl) (by kernel_rfl) (by kernel_rfl) (fun _ _ _ h => h) (Or.inl ⟨by rfl, ?_⟩) (by assumption) ?_; rotate_left; focus (intro w hSw; (try dsimp only at hSw); go_simp; (try with_reducible rfl))) | (refine wpAnyH_take (i := 3) (v := undef) (by first | (simp only [List.getElem?_toArray, List.getElem?_cons_zero, List.getElem?_cons_succ]; done) | (simp only [List.getElem?_toArray, List.getElem?_cons_zero, List.getElem?_cons_succ]; rfl)) (by kernel_rfl) (by kernel_rfl) (by kernel_rfl) (fun _ _ _ h => h) (Or.inr ⟨by rfl, by rfl⟩) (by assumption) ?_)
    try simp only [Act.put, List.setIfInBounds_toArray, List.set_cons_zero, List.set_cons_succ]
    refine wpAnyH_ready (rs := [2]) (by kernel_rfl) (by simp) ?_
    refine AllReadyH.cons (by first | (simp only [List.getElem?_toArray, List.getElem?_cons_zero, List.getElem?_cons_succ]; done) | (simp only [List.getElem?_toArray, List.getElem?_cons_zero, List.getElem?_cons_succ]; rfl)) (fun K hK => ?_) AllReadyH.nil
    go_simp
    go_at_call 6
    refine (scriptName k _).mono ?_
    rintro e wA ⟨rfl, hA⟩
    have hA' : Upd [] W7 wA := ((Upd.refl _ _).drew).trans hA
    (try go_wp2_with fail)
    refine hK.out _ _ ⟨HT.out _ hA', hA'⟩ (fun hHeld => ?_)
    clear hK K
    try simp only [Act.put, List.setIfInBounds_toArray, List.set_cons_zero, List.set_cons_succ]
    first | (refine wpAnyH_take (i := 4) (v := ?_) (by first | (simp only [List.getElem?_toArray, List.getElem?_cons_zero, List.getElem?_cons_succ]; done) | (simp only [List.getElem?_toArray, List.getElem?_cons_zero, List.getElem?_cons_succ]; rfl)) (by kernel_rfl) (by kernel_rfl) (by kernel_rfl) (fun _ _ _ h => h) (Or.inl ⟨by rfl, ?_⟩) (by assumption) ?_; rotate_left; focus (intro w hSw; (try dsimp only at hSw); go_simp; (try with_reducible rfl))) | (refine wpAnyH_take (i := 4) (v := undef) (by first | (simp only [List.getElem?_toArray, List.getElem?_cons_zero, List.getElem?_cons_succ]; done) | (simp only [List.getElem?_toArray, List.getElem?_cons_zero, List.getElem?_cons_succ]; rfl)) (by kernel_rfl) (by kernel_rfl) (by kernel_rfl) (fun _ _ _ h => h) (Or.inr ⟨by rfl, by rfl⟩) (by assumption) ?_)
    try simp only [Act.put, List.setIfInBounds_toArray, List.set_cons_zero, List.set_cons_succ]
    first | (refine wpAnyH_take (i := 5) (v := ?_) (by first | (simp only [List.getElem?_toArray, List.getElem?_cons_zero, List.getElem?_cons_succ]; done) | (simp only [List.getElem?_toArray, List.getElem?_cons_zero, List.getElem?_cons_succ]; rfl)) (by kernel_rfl) (by kernel_rfl) (by kernel_rfl) (fun _ _ _ h => h) (Or.inl ⟨by rfl, ?_⟩) (by assumption) ?_; rotate_left; focus (intro w hSw; (try dsimp only at hSw); go_simp; (try with_reducible rfl))) | (refine wpAnyH_take (i := 5) (v := undef) (by first | (simp only [List.getElem?_toArray, List.getElem?_cons_zero, List.getElem?_cons_succ]; done) | (simp only [List.getElem?_toArray, List.getElem?_cons_zero, List.getElem?_cons_succ]; rfl)) (by kernel_rfl) (by kernel_rfl) (by kernel_rfl) (fun _ _ _ h => h) (Or.inr ⟨by rfl, by rfl⟩) (by assumption) ?_)
    try simp only [Act.put, List.setIfInBounds_toArray, List.set_cons_zero, List.set_cons_succ]
    first | (refine wpAnyH_take (i := 6) (v := ?_) (by first | (simp only [List.getElem?_toArray, List.getElem?_cons_zero, List.getElem?_cons_succ]; done) | (simp only [List.getElem?_toArray, List.getElem?_cons_zero, List.getElem?_cons_succ]; rfl)) (by kernel_rfl) (by kernel_rfl) (by kernel_rfl) (fun _ _ _ h => h) (Or.inl ⟨by rfl, ?_⟩) (by assumption) ?_; rotate_left; focus (intro w hSw; (try dsimp only at hSw); go_simp; (try with_reducible rfl))) | (refine wpAnyH_take (i := 6) (v := undef) (by first | (simp only [List.getElem?_toArray, List.getElem?_cons_zero, List.getElem?_cons_succ]; done) | (simp only [List.getElem?_toArray, List.getElem?_cons_zero, List.getElem?_cons_succ]; rfl)) (by kernel_rfl) (by kernel_rfl) (by kernel_rfl) (fun _ _ _ h => h) (Or.inr ⟨by rfl, by rfl⟩) (by assumption) ?_)
    try simp only [Act.put, List.setIfInBounds_toArray, List.set_cons_zero, List.set_cons_succ]
    first | (refine wpAnyH_take (i := 8) (v := ?_) (by first | (simp only [List.getElem?_toArray, List.getElem?_cons_zero, List.getElem?_cons_succ]; done) | (simp only [List.getElem?_toArray, List.getElem?_cons_zero, List.getElem?_cons_succ]; rfl)) (by kernel_rfl) (by kernel_rfl) (by kernel_rfl) (fun _ _ _ h => h) (Or.inl ⟨by rfl, ?_⟩) (by assumption) ?_; rotate_left; focus (intro w hSw; (try dsimp only at hSw); go_simp; (try with_reducible rfl))) | (refine wpAnyH_take (i := 8) (v := undef) (by first | (simp only [List.getElem?_toArray, List.getElem?_cons_zero, List.getElem?_cons_succ]; done) | (simp only [List.getElem?_toArray, List.getElem?_cons_zero, List.getElem?_cons_succ]; rfl)) (by kernel_rfl) (by kernel_rfl) (by kernel_rfl) (fun _ _ _ h => h) (Or.inr ⟨by rfl, by rfl⟩) (by assumption) ?_)
    try simp only [Act.put, List.setIfInBounds_toArray, List.set_cons_zero, List.set_cons_succ]
    first | (refine wpAnyH_take (i := 9) (v := ?_) (by first | (simp only [List.getElem?_toArray, List.getElem?_cons_zero, List.getElem?_cons_succ]; done) | (simp only [List.getElem?_toArray, List.getElem?_cons_zero, List.getElem?_cons_succ]; rfl)) (by kernel_rfl) (by kernel_rfl) (by kernel_rfl) (fun _ _ _ h => h) (Or.inl ⟨by rfl, ?_⟩) (by assumption) ?_; rotate_left; focus (intro w hSw; (try dsimp only at hSw); go_simp; (try with_reducible rfl))) | (refine wpAnyH_take (i := 9) (v := undef) (by first | (simp only [List.getElem?_toArray, List.getElem?_cons_zero, List.getElem?_cons_succ]; done) | (simp only [List.getElem?_toArray, List.getElem?_cons_zero, List.getElem?_cons_succ]; rfl)) (by kernel_rfl) (by kernel_rfl) (by kernel_rfl) (fun _ _ _ h => h) (Or.inr ⟨by rfl, by rfl⟩) (by assumption) ?_)
    try simp only [Act.put, List.setIfInBounds_toArray, List.set_cons_zero, List.set_cons_succ]
    first | (refine wpAnyH_take (i := 10) (v := ?_) (by first | (simp only [List.getElem?_toArray, List.getElem?_cons_zero, List.getElem?_cons_succ]; done) | (simp only [List.getElem?_toArray, List.getElem?_cons_zero, List.getElem?_cons_succ]; rfl)) (by kernel_rfl) (by kernel_rfl) (by kernel_rfl) (fun _ _ _ h => h) (Or.inl ⟨by rfl, ?_⟩) (by assumption) ?_; rotate_left; focus (intro w hSw; (try dsimp only at hSw); go_simp; (try with_reducible rfl))) | (refine wpAnyH_take (i := 10) (v := undef) (by first | (simp only [List.getElem?_toArray, List.getElem?_cons_zero, List.getElem?_cons_succ]; done) | (simp only [List.getElem?_toArray, List.getElem?_cons_zero, List.getElem?_cons_succ]; rfl)) (by kernel_rfl) (by kernel_rfl) (by kernel_rfl) (fun _ _ _ h => h) (Or.inr ⟨by rfl, by rfl⟩) (by assumption) ?_)
    try simp only [Act.put, List.setIfInBounds_toArray, List.set_cons_zero, List.set_cons_succ]
    refine wpAnyH_ready (rs := [7]) (by kernel_rfl) (by simp) ?_
    refine AllReadyH.cons (by first | (simp only [List.getElem?_toArray, List.getElem?_cons_zero, List.getElem?_cons_succ]; done) | (simp only [List.getElem?_toArray, List.getElem?_cons_zero, List.getElem?_cons_succ]; rfl)) (fun K hK => ?_) AllReadyH.nil
    go_simp
    go_at_call 7
    refine (HSF.out ▸ scriptSafe k a b c d wA).mono ?_
    rintro e wB ⟨rfl, hB⟩
    have hB' : Upd [] W7 wB := hA'.trans hB
    (try go_wp2_with fail)
    refine hK.out _ _ ⟨HT.out _ hB', hB'⟩ (fun hHeld => ?_)
    clear hK K
    try simp only [Act.put, List.setIfInBounds_toArray, List.set_cons_zero, List.set_cons_succ]
    first | (refine wpAnyH_take (i := 11) (v := ?_) (by first | (simp only [List.getElem?_toArray, List.getElem?_cons_zero, List.getElem?_cons_succ]; done) | (simp only [List.getElem?_toArray, List.getElem?_cons_zero, List.getElem?_cons_succ]; rfl)) (by kernel_rfl) (by kernel_rfl) (by kernel_rfl) (fun _ _ _ h => h) (Or.inl ⟨by rfl, ?_⟩) (by assumption) ?_; rotate_left; focus (intro w hSw; (try dsimp only at hSw); go_simp; (try with_reducible rfl))) | (refine wpAnyH_take (i := 11) (v := undef) (by first | (simp only [List.getElem?_toArray, List.getElem?_cons_zero, List.getElem?_cons_succ]; done) | (simp only [List.getElem?_toArray, List.getElem?_cons_zero, List.getElem?_cons_succ]; rfl)) (by kernel_rfl) (by kernel_rfl) (by kernel_rfl) (fun _ _ _ h => h) (Or.inr ⟨by rfl, by rfl⟩) (by assumption) ?_)
    try simp only [Act.put, List.setIfInBounds_toArray, List.set_cons_zero, List.set_cons_succ]
    first | (refine wpAnyH_take (i := 12) (v := ?_) (by first | (simp only [List.getElem?_toArray, List.getElem?_cons_zero, List.getElem?_cons_succ]; done) | (simp only [List.getElem?_toArray, List.getElem?_cons_zero, List.getElem?_cons_succ]; rfl)) (by kernel_rfl) (by kernel_rfl) (by kernel_rfl) (fun _ _ _ h => h) (Or.inl ⟨by rfl, ?_⟩) (by assumption) ?_; rotate_left; focus (intro w hSw; (try dsimp only at hSw); go_simp; (try with_reducible rfl))) | (refine wpAnyH_take (i := 12) (v := undef) (by first | (simp only [List.getElem?_toArray, List.getElem?_cons_zero, List.getElem?_cons_succ]; done) | (simp only [List.getElem?_toArray, List.getElem?_cons_zero, List.getElem?_cons_succ]; rfl)) (by kernel_rfl) (by kernel_rfl) (by kernel_rfl) (fun _ _ _ h => h) (Or.inr ⟨by rfl, by rfl⟩) (by assumption) ?_)
    try simp only [Act.put, List.setIfInBounds_toArray, List.set_cons_zero, List.set_cons_succ]
    first | (refine wpAnyH_take (i := 13) (v := ?_) (by first | (simp only [List.getElem?_toArray, List.getElem?_cons_zero, List.getElem?_cons_succ]; done) | (simp only [List.getElem?_toArray, List.getElem?_cons_zero, List.getElem?_cons_succ]; rfl)) (by kernel_rfl) (by kernel_rfl) (by kernel_rfl) (fun _ _ _ h => h) (Or.inl ⟨by rfl, ?_⟩) (by assumption) ?_; rotate_left; focus (intro w hSw; (try dsimp only at hSw); go_simp; (try with_reducible rfl))) | (refine wpAnyH_take (i := 13) (v := undef) (by first | (simp only [List.getElem?_toArray, List.getElem?_cons_zero, List.getElem?_cons_succ]; done) | (simp only [List.getElem?_toArray, List.getElem?_cons_zero, List.getElem?_cons_succ]; rfl)) (by kernel_rfl) (by kernel_rfl) (by kernel_rfl) (fun _ _ _ h => h) (Or.inr ⟨by rfl, by rfl⟩) (by assumption) ?_)
    try simp only [Act.put, List.setIfInBounds_toArray, List.set_cons_zero, List.set_cons_succ]
    first | (refine wpAnyH_take (i := 14) (v := ?_) (by first | (simp only [List.getElem?_toArray, List.getElem?_cons_zero, List.getElem?_cons_succ]; done) | (simp only [List.getElem?_toArray, List.getElem?_cons_zero, List.getElem?_cons_succ]; rfl)) (by kernel_rfl) (by kernel_rfl) (by kernel_rfl) (fun _ _ _ h => h) (Or.inl ⟨by rfl, ?_⟩) (by assumption) ?_; rotate_left; focus (intro w hSw; (try dsimp only at hSw); go_simp; (try with_reducible rfl))) | (refine wpAnyH_take (i := 14) (v := undef) (by first | (simp only [List.getElem?_toArray, List.getElem?_cons_zero, List.getElem?_cons_succ]; done) | (simp only [List.getElem?_toArray, List.getElem?_cons_zero, List.getElem?_cons_succ]; rfl)) (by kernel_rfl) (by kernel_rfl) (by kernel_rfl) (fun _ _ _ h => h) (Or.inr ⟨by rfl, by rfl⟩) (by assumption) ?_)
    try simp only [Act.put, List.setIfInBounds_toArray, List.set_cons_zero, List.set_cons_succ]
    first | (refine wpAnyH_take (i := 15) (v := ?_) (by first | (simp only [List.getElem?_toArray, List.getElem?_cons_zero, List.getElem?_cons_succ]; done) | (simp only [List.getElem?_toArray, List.getElem?_cons_zero, List.getElem?_cons_succ]; rfl)) (by kernel_rfl) (by kernel_rfl) (by kernel_rfl) (fun _ _ _ h => h) (Or.inl ⟨by rfl, ?_⟩) (by assumption) ?_; rotate_left; focus (intro w hSw; (try dsimp only at hSw); go_simp; (try with_reducible rfl))) | (refine wpAnyH_take (i := 15) (v := undef) (by first | (simp only [List.getElem?_toArray, List.getElem?_cons_zero, List.getElem?_cons_succ]; done) | (simp only [List.getElem?_toArray, List.getElem?_cons_zero, List.getElem?_cons_succ]; rfl)) (by kernel_rfl) (by kernel_rfl) (by kernel_rfl) (fun _ _ _ h => h) (Or.inr ⟨by rfl, by rfl⟩) (by assumption) ?_)
    try simp only [Act.put, List.setIfInBounds_toArray, List.set_cons_zero, List.set_cons_succ]
    first | (refine wpAnyH_take (i := 16) (v := ?_) (by first | (simp only [List.getElem?_toArray, List.getElem?_cons_zero, List.getElem?_cons_succ]; done) | (simp only [List.getElem?_toArray, List.getElem?_cons_zero, List.getElem?_cons_succ]; rfl)) (by kernel_rfl) (by kernel_rfl) (by kernel_rfl) (fun _ _ _ h => h) (Or.inl ⟨by rfl, ?_⟩) (by assumption) ?_; rotate_left; focus (intro w hSw; (try dsimp only at hSw); go_simp; (try with_reducible rfl))) | (refine wpAnyH_take (i := 16) (v := undef) (by first | (simp only [List.getElem?_toArray, List.getElem?_cons_zero, List.getElem?_cons_succ]; done) | (simp only [List.getElem?_toArray, List.getElem?_cons_zero, List.getElem?_cons_succ]; rfl)) (by kernel_rfl) (by kernel_rfl) (by kernel_rfl) (fun _ _ _ h => h) (Or.inr ⟨by rfl, by rfl⟩) (by assumption) ?_)
    try simp only [Act.put, List.setIfInBounds_toArray, List.set_cons_zero, List.set_cons_succ]
    first | (refine wpAnyH_take (i := 17) (v := ?_) (by first | (simp only [List.getElem?_toArray, List.getElem?_cons_zero, List.getElem?_cons_succ]; done) | (simp only [List.getElem?_toArray, List.getElem?_cons_zero, List.getElem?_cons_succ]; rfl)) (by kernel_rfl) (by kernel_rfl) (by kernel_rfl) (fun _ _ _ h => h) (Or.inl ⟨by rfl, ?_⟩) (by assumption) ?_; rotate_left; focus (intro w hSw; (try dsimp only at hSw); go_simp; (try with_reducible rfl))) | (refine wpAnyH_take (i := 17) (v := undef) (by first | (simp only [List.getElem?_toArray, List.getElem?_cons_zero, List.getElem?_cons_succ]; done) | (simp only [List.getElem?_toArray, List.getElem?_cons_zero, List.getElem?_cons_succ]; rfl)) (by kernel_rfl) (by kernel_rfl) (by kernel_rfl) (fun _ _ _ h => h) (Or.inr ⟨by rfl, by rfl⟩) (by assumption) ?_)
    try simp only [Act.put, List.setIfInBounds_toArray, List.set_cons_zero, List.set_cons_succ]
    first | (refine wpAnyH_take (i := 18) (v := ?_) (by first | (simp only [List.getElem?_toArray, List.getElem?_cons_zero, List.getElem?_cons_succ]; done) | (simp only [List.getElem?_toArray, List.getElem?_cons_zero, List.getElem?_cons_succ]; rfl)) (by kernel_rfl) (by kernel_rfl) (by kernel_rfl) (fun _ _ _ h => h) (Or.inl ⟨by rfl, ?_⟩) (by assumption) ?_; rotate_left; focus (intro w hSw; (try dsimp only at hSw); go_simp; (try with_reducible rfl))) | (refine wpAnyH_take (i := 18) (v := undef) (by first | (simp only [List.getElem?_toArray, List.getElem?_cons_zero, List.getElem?_cons_succ]; done) | (simp only [List.getElem?_toArray, List.getElem?_cons_zero, List.getElem?_cons_succ]; rfl)) (by kernel_rfl) (by kernel_rfl) (by kernel_rfl) (fun _ _ _ h => h) (Or.inr ⟨by rfl, by rfl⟩) (by assumption) ?_)
    try simp only [Act.put, List.setIfInBounds_toArray, List.set_cons_zero, List.set_cons_succ]
    first | (refine wpAnyH_take (i := 19) (v := ?_) (by first | (simp only [List.getElem?_toArray, List.getElem?_cons_zero, List.getElem?_cons_succ]; done) | (simp only [List.getElem?_toArray, List.getElem?_cons_zero, List.getElem?_cons_succ]; rfl)) (by kernel_rfl) (by kernel_rfl) (by kernel_rfl) (fun _ _ _ h => h) (Or.inl ⟨by rfl, ?_⟩) (by assumption) ?_; rotate_left; focus (intro w hSw; (try dsimp only at hSw); go_simp; (try with_reducible rfl))) | (refine wpAnyH_take (i := 19) (v := undef) (by first | (simp only [List.getElem?_toArray, List.getElem?_cons_zero, List.getElem?_cons_succ]; done) | (simp only [List.getElem?_toArray, List.getElem?_cons_zero, List.getElem?_cons_succ]; rfl)) (by kernel_rfl) (by kernel_rfl) (by kernel_rfl) (fun _ _ _ h => h) (Or.inr ⟨by rfl, by rfl⟩) (by assumption) ?_)
    try simp only [Act.put, List.setIfInBounds_toArray, List.set_cons_zero, List.set_cons_succ]
    first | (refine wpAnyH_take (i := 20) (v := ?_) (by first | (simp only [List.getElem?_toArray, List.getElem?_cons_zero, List.getElem?_cons_succ]; done) | (simp only [List.getElem?_toArray, List.getElem?_cons_zero, List.getElem?_cons_succ]; rfl)) (by kernel_rfl) (by kernel_rfl) (by kernel_rfl) (fun _ _ _ h => h) (Or.inl ⟨by rfl, ?_⟩) (by assumption) ?_; rotate_left; focus (intro w hSw; (try dsimp only at hSw); go_simp; (try with_reducible rfl))) | (refine wpAnyH_take (i := 20) (v := undef) (by first | (simp only [List.getElem?_toArray, List.getElem?_cons_zero, List.getElem?_cons_succ]; done) | (simp only [List.getElem?_toArray, List.getElem?_cons_zero, List.getElem?_cons_succ]; rfl)) (by kernel_rfl) (by kernel_rfl) (by kernel_rfl) (fun _ _ _ h => h) (Or.inr ⟨by rfl, by rfl⟩) (by assumption) ?_)
    try simp only [Act.put, List.setIfInBounds_toArray, List.set_cons_zero, List.set_cons_succ]
    first | (refine wpAnyH_take (i := 21) (v := ?_) (by first | (simp only [List.getElem?_toArray, List.getElem?_cons_zero, List.getElem?_cons_succ]; done) | (simp only [List.getElem?_toArray, List.getElem?_cons_zero, List.getElem?_cons_succ]; rfl)) (by kernel_rfl) (by kernel_rfl) (by kernel_rfl) (fun _ _ _ h => h) (Or.inl ⟨by rfl, ?_⟩) (by assumption) ?_; rotate_left; focus (intro w hSw; (try dsimp only at hSw); go_simp; (try with_reducible rfl))) | (refine wpAnyH_take (i := 21) (v := undef) (by first | (simp only [List.getElem?_toArray, List.getElem?_cons_zero, List.getElem?_cons_succ]; done) | (simp only [List.getElem?_toArray, List.getElem?_cons_zero, List.getElem?_cons_succ]; rfl)) (by kernel_rfl) (by kernel_rfl) (by kernel_rfl) (fun _ _ _ h => h) (Or.inr ⟨by rfl, by rfl⟩) (by assumption) ?_)
    try simp only [Act.put, List.setIfInBounds_toArray, List.set_cons_zero, List.set_cons_succ]
    first | (refine wpAnyH_take (i := 22) (v := ?_) (by first | (simp only [List.getElem?_toArray, List.getElem?_cons_zero, List.getElem?_cons_succ]; done) | (simp only [List.getElem?_toArray, List.getElem?_cons_zero, List.getElem?_cons_succ]; rfl)) (by kernel_rfl) (by kernel_rfl) (by kernel_rfl) (fun _ _ _ h => h) (Or.inl ⟨by rfl, ?_⟩) (by assumption) ?_; rotate_left; focus (intro w hSw; (try dsimp only at hSw); go_simp; (try with_reducible rfl))) | (refine wpAnyH_take (i := 22) (v := undef) (by first | (simp only [List.getElem?_toArray, List.getElem?_cons_zero, List.getElem?_cons_succ]; done) | (simp only [List.getElem?_toArray, List.getElem?_cons_zero, List.getElem?_cons_succ]; rfl)) (by kernel_rfl) (by kernel_rfl) (by kernel_rfl) (fun _ _ _ h => h) (Or.inr ⟨by rfl, by rfl⟩) (by assumption) ?_)
    try simp only [Act.put, List.setIfInBounds_toArray, List.set_cons_zero, List.set_cons_succ]
    first | (refine wpAnyH_take (i := 23) (v := ?_) (by first | (simp only [List.getElem?_toArray, List.getElem?_cons_zero, List.getElem?_cons_succ]; done) | (simp only [List.getElem?_toArray, List.getElem?_cons_zero, List.getElem?_cons_succ]; rfl)) (by kernel_rfl) (by kernel_rfl) (by kernel_rfl) (fun _ _ _ h => h) (Or.inl ⟨by rfl, ?_⟩) (by assumption) ?_; rotate_left; focus (intro w hSw; (try dsimp only at hSw); go_simp; (try with_reducible rfl))) | (refine wpAnyH_take (i := 23) (v := undef) (by first | (simp only [List.getElem?_toArray, List.getElem?_cons_zero, List.getElem?_cons_succ]; done) | (simp only [List.getElem?_toArray, List.getElem?_cons_zero, List.getElem?_cons_succ]; rfl)) (by kernel_rfl) (by kernel_rfl) (by kernel_rfl) (fun _ _ _ h => h) (Or.inr ⟨by rfl, by rfl⟩) (by assumption) ?_)
    try simp only [Act.put, List.setIfInBounds_toArray, List.set_cons_zero, List.set_cons_succ]
    first | (refine wpAnyH_take (i := 24) (v := ?_) (by first | (simp only [List.getElem?_toArray, List.getElem?_cons_zero, List.getElem?_cons_succ]; done) | (simp only [List.getElem?_toArray, List.getElem?_cons_zero, List.getElem?_cons_succ]; rfl)) (by kernel_rfl) (by kernel_rfl) (by kernel_rfl) (fun _ _ _ h => h) (Or.inl ⟨by rfl, ?_⟩) (by assumption) ?_; rotate_left; focus (intro w hSw; (try dsimp only at hSw); go_simp; (try with_reducible rfl))) | (refine wpAnyH_take (i := 24) (v := undef) (by first | (simp only [List.getElem?_toArray, List.getElem?_cons_zero, List.getElem?_cons_succ]; done) | (simp only [List.getElem?_toArray, List.getElem?_cons_zero, List.getElem?_cons_succ]; rfl)) (by kernel_rfl) (by kernel_rfl) (by kernel_rfl) (fun _ _ _ h => h) (Or.inr ⟨by rfl, by rfl⟩) (by assumption) ?_)
    try simp only [Act.put, List.setIfInBounds_toArray, List.set_cons_zero, List.set_cons_succ]
    refine wpAnyH_ready (rs := [25]) (by kernel_rfl) (by simp) ?_
    refine AllReadyH.cons (by first | (simp only [List.getElem?_toArray, List.getElem?_cons_zero, List.getElem?_cons_succ]; done) | (simp only [List.getElem?_toArray, List.getElem?_cons_zero, List.getElem?_cons_succ]; rfl)) (fun K hK => ?_) AllReadyH.nil
    go_simp
    go_at_call 8
    refine (doNil k a b c d wB).mono ?_
    rintro e wC ⟨rfl, hC⟩
    have hC' : Upd [] W7 wC := hB'.trans hC
    (try go_wp2_with fail)
    refine hK.out _ _ ⟨HT.out _ hC', hC'⟩ (fun hHeld => ?_)
    clear hK K
    try simp only [Act.put, List.setIfInBounds_toArray, List.set_cons_zero, List.set_cons_succ]
    first | (refine wpAnyH_take (i := 26) (v := ?_) (by first | (simp only [List.getElem?_toArray, List.getElem?_cons_zero, List.getElem?_cons_succ]; done) | (simp only [List.getElem?_toArray, List.getElem?_cons_zero, List.getElem?_cons_succ]; rfl)) (by kernel_rfl) (by kernel_rfl) (by kernel_rfl) (fun _ _ _ h => h) (Or.inl ⟨by rfl, ?_⟩) (by assumption) ?_; rotate_left; focus (intro w hSw; (try dsimp only at hSw); go_simp; (try with_reducible rfl))) | (refine wpAnyH_take (i := 26) (v := undef) (by first | (simp only [List.getElem?_toArray, List.getElem?_cons_zero, List.getElem?_cons_succ]; done) | (simp only [List.getElem?_toArray, List.getElem?_cons_zero, List.getElem?_cons_succ]; rfl)) (by kernel_rfl) (by kernel_rfl) (by kernel_rfl) (fun _ _ _ h => h) (Or.inr ⟨by rfl, by rfl⟩) (by assumption) ?_)
    try simp only [Act.put, List.setIfInBounds_toArray, List.set_cons_zero, List.set_cons_succ]
    first | (refine wpAnyH_take (i := 27) (v := ?_) (by first | (simp only [List.getElem?_toArray, List.getElem?_cons_zero, List.getElem?_cons_succ]; done) | (simp only [List.getElem?_toArray, List.getElem?_cons_zero, List.getElem?_cons_succ]; rfl)) (by kernel_rfl) (by kernel_rfl) (by kernel_rfl) (fun _ _ _ h => h) (Or.inl ⟨by rfl, ?_⟩) (by assumption) ?_; rotate_left; focus (intro w hSw; (try dsimp only at hSw); go_simp; (try with_reducible rfl))) | (refine wpAnyH_take (i := 27) (v := undef) (by first | (simp only [List.getElem?_toArray, List.getElem?_cons_zero, List.getElem?_cons_succ]; done) | (simp only [List.getElem?_toArray, List.getElem?_cons_zero, List.getElem?_cons_succ]; rfl)) (by kernel_rfl) (by kernel_rfl) (by kernel_rfl) (fun _ _ _ h => h) (Or.inr ⟨by rfl, by rfl⟩) (by assumption) ?_)
    try simp only [Act.put, List.setIfInBounds_toArray, List.set_cons_zero, List.set_cons_succ]
    first | (refine wpAnyH_take (i := 28) (v := ?_) (by first | (simp only [List.getElem?_toArray, List.getElem?_cons_zero, List.getElem?_cons_succ]; done) | (simp only [List.getElem?_toArray, List.getElem?_cons_zero, List.getElem?_cons_succ]; rfl)) (by kernel_rfl) (by kernel_rfl) (by kernel_rfl) (fun _ _ _ h => h) (Or.inl ⟨by rfl, ?_⟩) (by assumption) ?_; rotate_left; focus (intro w hSw; (try dsimp only at hSw); go_simp; (try with_reducible rfl))) | (refine wpAnyH_take (i := 28) (v := undef) (by first | (simp only [List.getElem?_toArray, List.getElem?_cons_zero, List.getElem?_cons_succ]; done) | (simp only [List.getElem?_toArray, List.getElem?_cons_zero, List.getElem?_cons_succ]; rfl)) (by kernel_rfl) (by kernel_rfl) (by kernel_rfl) (fun _ _ _ h => h) (Or.inr ⟨by rfl, by rfl⟩) (by assumption) ?_)
    try simp only [Act.put, List.setIfInBounds_toArray, List.set_cons_zero, List.set_cons_succ]
    first | (refine wpAnyH_take (i := 29) (v := ?_) (by first | (simp only [List.getElem?_toArray, List.getElem?_cons_zero, List.getElem?_cons_succ]; done) | (simp only [List.getElem?_toArray, List.getElem?_cons_zero, List.getElem?_cons_succ]; rfl)) (by kernel_rfl) (by kernel_rfl) (by kernel_rfl) (fun _ _ _ h => h) (Or.inl ⟨by rfl, ?_⟩) (by assumption) ?_; rotate_left; focus (intro w hSw; (try dsimp only at hSw); go_simp; (try with_reducible rfl))) | (refine wpAnyH_take (i := 29) (v := undef) (by first | (simp only [List.getElem?_toArray, List.getElem?_cons_zero, List.getElem?_cons_succ]; done) | (simp only [List.getElem?_toArray, List.getElem?_cons_zero, List.getElem?_cons_succ]; rfl)) (by kernel_rfl) (by kernel_rfl) (by kernel_rfl) (fun _ _ _ h => h) (Or.inr ⟨by rfl, by rfl⟩) (by assumption) ?_)
    try simp only [Act.put, List.setIfInBounds_toArray, List.set_cons_zero, List.set_cons_succ]
    first | (refine wpAnyH_take (i := 30) (v := ?_) (by first | (simp only [List.getElem?_toArray, List.getElem?_cons_zero, List.getElem?_cons_succ]; done) | (simp only [List.getElem?_toArray, List.getElem?_cons_zero, List.getElem?_cons_succ]; rfl)) (by kernel_rfl) (by kernel_rfl) (by kernel_rfl) (fun _ _ _ h => h) (Or.inl ⟨by rfl, ?_⟩) (by assumption) ?_; rotate_left; focus (intro w hSw; (try dsimp only at hSw); go_simp; (try with_reducible rfl))) | (refine wpAnyH_take (i := 30) (v := undef) (by first | (simp only [List.getElem?_toArray, List.getElem?_cons_zero, List.getElem?_cons_succ]; done) | (simp only [List.getElem?_toArray, List.getElem?_cons_zero, List.getElem?_cons_succ]; rfl)) (by kernel_rfl) (by kernel_rfl) (by kernel_rfl) (fun _ _ _ h => h) (Or.inr ⟨by rfl, by rfl⟩) (by assumption) ?_)
    try simp only [Act.put, List.setIfInBounds_toArray, List.set_cons_zero, List.set_cons_succ]
    refine wpAnyH_ready (rs := [31]) (by kernel_rfl) (by simp) ?_
    refine AllReadyH.cons (by first | (simp only [List.getElem?_toArray, List.getElem?_cons_zero, List.getElem?_cons_succ]; done) | (simp only [List.getElem?_toArray, List.getElem?_cons_zero, List.getElem?_cons_succ]; rfl)) (fun K hK => ?_) AllReadyH.nil
    go_simp
    go_at_call 8
    refine (doArg sb k2 a b c d hk2 wC).mono ?_
    rintro e wD ⟨rfl, hD⟩
    have hD' : Upd [] W7 wD := hC'.trans hD
    (try go_wp2_with fail)
    refine hK.out _ _ ⟨HT.out _ hD', hD'⟩ (fun hHeld => ?_)
    clear hK K
    try simp only [Act.put, List.setIfInBounds_toArray, List.set_cons_zero, List.set_cons_succ]
    first | (refine wpAnyH_take (i := 32) (v := ?_) (by first | (simp only [List.getElem?_toArray, List.getElem?_cons_zero, List.getElem?_cons_succ]; done) | (simp only [List.getElem?_toArray, List.getElem?_cons_zero, List.getElem?_cons_succ]; rfl)) (by kernel_rfl) (by kernel_rfl) (by kernel_rfl) (fun _ _ _ h => h) (Or.inl ⟨by rfl, ?_⟩) (by assumption) ?_; rotate_left; focus (intro w hSw; (try dsimp only at hSw); go_simp; (try with_reducible rfl))) | (refine wpAnyH_take (i := 32) (v := undef) (by first | (simp only [List.getElem?_toArray, List.getElem?_cons_zero, List.getElem?_cons_succ]; done) | (simp only [List.getElem?_toArray, List.getElem?_cons_zero, List.getElem?_cons_succ]; rfl)) (by kernel_rfl) (by kernel_rfl) (by kernel_rfl) (fun _ _ _ h => h) (Or.inr ⟨by rfl, by rfl⟩) (by assumption) ?_)
    try simp only [Act.put, List.setIfInBounds_toArray, List.set_cons_zero, List.set_cons_succ]
    first | (refine wpAnyH_take (i := 33) (v := ?_) (by first | (simp only [List.getElem?_toArray, List.getElem?_cons_zero, List.getElem?_cons_succ]; done) | (simp only [List.getElem?_toArray, List.getElem?_cons_zero, List.getElem?_cons_succ]; rfl)) (by kernel_rfl) (by kernel_rfl) (by kernel_rfl) (fun _ _ _ h => h) (Or.inl ⟨by rfl, ?_⟩) (by assumption) ?_; rotate_left; focus (intro w hSw; (try dsimp only at hSw); go_simp; (try with_reducible rfl))) | (refine wpAnyH_take (i := 33) (v := undef) (by first | (simp only [List.getElem?_toArray, List.getElem?_cons_zero, List.getElem?_cons_succ]; done) | (simp only [List.getElem?_toArray, List.getElem?_cons_zero, List.getElem?_cons_succ]; rfl)) (by kernel_rfl) (by kernel_rfl) (by kernel_rfl) (fun _ _ _ h => h) (Or.inr ⟨by rfl, by rfl⟩) (by assumption) ?_)
    try simp only [Act.put, List.setIfInBounds_toArray, List.set_cons_zero, List.set_cons_succ]
    first | (refine wpAnyH_take (i := 34) (v := ?_) (by first | (simp only [List.getElem?_toArray, List.getElem?_cons_zero, List.getElem?_cons_succ]; done) | (simp only [List.getElem?_toArray, List.getElem?_cons_zero, List.getElem?_cons_succ]; rfl)) (by kernel_rfl) (by kernel_rfl) (by kernel_rfl) (fun _ _ _ h => h) (Or.inl ⟨by rfl, ?_⟩) (by assumption) ?_; rotate_left; focus (intro w hSw; (try dsimp only at hSw); go_simp; (try with_reducible rfl))) | (refine wpAnyH_take (i := 34) (v := undef) (by first | (simp only [List.getElem?_toArray, List.getElem?_cons_zero, List.getElem?_cons_succ]; done) | (simp only [List.getElem?_toArray, List.getElem?_cons_zero, List.getElem?_cons_succ]; rfl)) (by kernel_rfl) (by kernel_rfl) (by kernel_rfl) (fun _ _ _ h => h) (Or.inr ⟨by rfl, by rfl⟩) (by assumption) ?_)
    try simp only [Act.put, List.setIfInBounds_toArray, List.set_cons_zero, List.set_cons_succ]
    first | (refine wpAnyH_take (i := 35) (v := ?_) (by first | (simp only [List.getElem?_toArray, List.getElem?_cons_zero, List.getElem?_cons_succ]; done) | (simp only [List.getElem?_toArray, List.getElem?_cons_zero, List.getElem?_cons_succ]; rfl)) (by kernel_rfl) (by kernel_rfl) (by kernel_rfl) (fun _ _ _ h => h) (Or.inl ⟨by rfl, ?_⟩) (by assumption) ?_; rotate_left; focus (intro w hSw; (try dsimp only at hSw); go_simp; (try with_reducible rfl))) | (refine wpAnyH_take (i := 35) (v := undef) (by first | (simp only [List.getElem?_toArray, List.getElem?_cons_zero, List.getElem?_cons_succ]; done) | (simp only [List.getElem?_toArray, List.getElem?_cons_zero, List.getElem?_cons_succ]; rfl)) (by kernel_rfl) (by kernel_rfl) (by kernel_rfl) (fun _ _ _ h => h) (Or.inr ⟨by rfl, by rfl⟩) (by assumption) ?_)
    try simp only [Act.put, List.setIfInBounds_toArray, List.set_cons_zero, List.set_cons_succ]
    first | (refine wpAnyH_take (i := 36) (v := ?_) (by first | (simp only [List.getElem?_toArray, List.getElem?_cons_zero, List.getElem?_cons_succ]; done) | (simp only [List.getElem?_toArray, List.getElem?_cons_zero, List.getElem?_cons_succ]; rfl)) (by kernel_rfl) (by kernel_rfl) (by kernel_rfl) (fun _ _ _ h => h) (Or.inl ⟨by rfl, ?_⟩) (by assumption) ?_; rotate_left; focus (intro w hSw; (try dsimp only at hSw); go_simp; (try with_reducible rfl))) | (refine wpAnyH_take (i := 36) (v := undef) (by first | (simp only [List.getElem?_toArray, List.getElem?_cons_zero, List.getElem?_cons_succ]; done) | (simp only [List.getElem?_toArray, List.getElem?_cons_zero, List.getElem?_cons_succ]; rfl)) (by kernel_rfl) (by kernel_rfl) (by kernel_rfl) (fun _ _ _ h => h) (Or.inr ⟨by rfl, by rfl⟩) (by assumption) ?_)
    try simp only [Act.put, List.setIfInBounds_toArray, List.set_cons_zero, List.set_cons_succ]
    first | (refine wpAnyH_take (i := 39) (v := ?_) (by first | (simp only [List.getElem?_toArray, List.getElem?_cons_zero, List.getElem?_cons_succ]; done) | (simp only [List.getElem?_toArray, List.getElem?_cons_zero, List.getElem?_cons_succ]; rfl)) (by kernel_rfl) (by kernel_rfl) (by kernel_rfl) (fun _ _ _ h => h) (Or.inl ⟨by rfl, ?_⟩) (by assumption) ?_; rotate_left; focus (intro w hSw; (try dsimp only at hSw); go_simp; (try with_reducible rfl))) | (refine wpAnyH_take (i := 39) (v := undef) (by first | (simp only [List.getElem?_toArray, List.getElem?_cons_zero, List.getElem?_cons_succ]; done) | (simp only [List.getElem?_toArray, List.getElem?_cons_zero, List.getElem?_cons_succ]; rfl)) (by kernel_rfl) (by kernel_rfl) (by kernel_rfl) (fun _ _ _ h => h) (Or.inr ⟨by rfl, by rfl⟩) (by assumption) ?_)
    try simp only [Act.put, List.setIfInBounds_toArray, List.set_cons_zero, List.set_cons_succ]
    first | (refine wpAnyH_take (i := 40) (v := ?_) (by first | (simp only [List.getElem?_toArray, List.getElem?_cons_zero, List.getElem?_cons_succ]; done) | (simp only [List.getElem?_toArray, List.getElem?_cons_zero, List.getElem?_cons_succ]; rfl)) (by kernel_rfl) (by kernel_rfl) (by kernel_rfl) (fun _ _ _ h => h) (Or.inl ⟨by rfl, ?_⟩) (by assumption) ?_; rotate_left; focus (intro w hSw; (try dsimp only at hSw); go_simp; (try with_reducible rfl))) | (refine wpAnyH_take (i := 40) (v := undef) (by first | (simp only [List.getElem?_toArray, List.getElem?_cons_zero, List.getElem?_cons_succ]; done) | (simp only [List.getElem?_toArray, List.getElem?_cons_zero, List.getElem?_cons_succ]; rfl)) (by kernel_rfl) (by kernel_rfl) (by kernel_rfl) (fun _ _ _ h => h) (Or.inr ⟨by rfl, by rfl⟩) (by assumption) ?_)
    try simp only [Act.put, List.setIfInBounds_toArray, List.set_cons_zero, List.set_cons_succ]
    refine wpAnyH_ready (rs := [37]) (by kernel_rfl) (by simp) ?_
    refine AllReadyH.cons (by first | (simp only [List.getElem?_toArray, List.getElem?_cons_zero, List.getElem?_cons_succ]; done) | (simp only [List.getElem?_toArray, List.getElem?_cons_zero, List.getElem?_cons_succ]; rfl)) (fun K hK => ?_) AllReadyH.nil
    go_simp
    go_at_call 8
    refine (HD.out wD hD').mono ?_
    rintro e wE ⟨rfl, hE0⟩
    have hE : Upd [] W7 wE := hD'.trans hE0
    (try go_wp2_with fail)
    refine hK.out _ _ ⟨HT.out _ hE, hE⟩ (fun hHeld => ?_)
    clear hK K
    try simp only [Act.put, List.setIfInBounds_toArray, List.set_cons_zero, List.set_cons_succ]
    first | (refine wpAnyH_take (i := 38) (v := ?_) (by first | (simp only [List.getElem?_toArray, List.getElem?_cons_zero, List.getElem?_cons_succ]; done) | (simp only [List.getElem?_toArray, List.getElem?_cons_zero, List.getElem?_cons_succ]; rfl)) (by kernel_rfl) (by kernel_rfl) (by kernel_rfl) (fun _ _ _ h => h) (Or.inl ⟨by rfl, ?_⟩) (by assumption) ?_; rotate_left; focus (intro w hSw; (try dsimp only at hSw); go_simp; (try with_reducible rfl))) | (refine wpAnyH_take (i := 38) (v := undef) (by first | (simp only [List.getElem?_toArray, List.getElem?_cons_zero, List.getElem?_cons_succ]; done) | (simp only [List.getElem?_toArray, List.getElem?_cons_zero, List.getElem?_cons_succ]; rfl)) (by kernel_rfl) (by kernel_rfl) (by kernel_rfl) (fun _ _ _ h => h) (Or.inr ⟨by rfl, by rfl⟩) (by assumption) ?_)
    try simp only [Act.put, List.setIfInBounds_toArray, List.set_cons_zero, List.set_cons_succ]
    first | (refine wpAnyH_take (i := 41) (v := ?_) (by first | (simp only [List.getElem?_toArray, List.getElem?_cons_zero, List.getElem?_cons_succ]; done) | (simp only [List.getElem?_toArray, List.getElem?_cons_zero, List.getElem?_cons_succ]; rfl)) (by kernel_rfl) (by kernel_rfl) (by kernel_rfl) (fun _ _ _ h => h) (Or.inl ⟨by rfl, ?_⟩) (by assumption) ?_; rotate_left; focus (intro w hSw; (try dsimp only at hSw); go_simp; (try with_reducible rfl))) | (refine wpAnyH_take (i := 41) (v := undef) (by first | (simp only [List.getElem?_toArray, List.getElem?_cons_zero, List.getElem?_cons_succ]; done) | (simp only [List.getElem?_toArray, List.getElem?_cons_zero, List.getElem?_cons_succ]; rfl)) (by kernel_rfl) (by kernel_rfl) (by kernel_rfl) (fun _ _ _ h => h) (Or.inr ⟨by rfl, by rfl⟩) (by assumption) ?_)
    try simp only [Act.put, List.setIfInBounds_toArray, List.set_cons_zero, List.set_cons_succ]
    first | (refine wpAnyH_take (i := 42) (v := ?_) (by first | (simp only [List.getElem?_toArray, List.getElem?_cons_zero, List.getElem?_cons_succ]; done) | (simp only [List.getElem?_toArray, List.getElem?_cons_zero, List.getElem?_cons_succ]; rfl)) (by kernel_rfl) (by kernel_rfl) (by kernel_rfl) (fun _ _ _ h => h) (Or.inl ⟨by rfl, ?_⟩) (by assumption) ?_; rotate_left; focus (intro w hSw; (try dsimp only at hSw); go_simp; (try with_reducible rfl))) | (refine wpAnyH_take (i := 42) (v := undef) (by first | (simp only [List.getElem?_toArray, List.getElem?_cons_zero, List.getElem?_cons_succ]; done) | (simp only [List.getElem?_toArray, List.getElem?_cons_zero, List.getElem?_cons_succ]; rfl)) (by kernel_rfl) (by kernel_rfl) (by kernel_rfl) (fun _ _ _ h => h) (Or.inr ⟨by rfl, by rfl⟩) (by assumption) ?_)
    try simp only [Act.put, List.setIfInBounds_toArray, List.set_cons_zero, List.set_cons_succ]
    first | (refine wpAnyH_take (i := 43) (v := ?_) (by first | (simp only [List.getElem?_toArray, List.getElem?_cons_zero, List.getElem?_cons_succ]; done) | (simp only [List.getElem?_toArray, List.getElem?_cons_zero, List.getElem?_cons_succ]; rfl)) (by kernel_rfl) (by kernel_rfl) (by kernel_rfl) (fun _ _ _ h => h) (Or.inl ⟨by rfl, ?_⟩) (by assumption) ?_; rotate_left; focus (intro w hSw; (try dsimp only at hSw); go_simp; (try with_reducible rfl))) | (refine wpAnyH_take (i := 43) (v := undef) (by first | (simp only [List.getElem?_toArray, List.getElem?_cons_zero, List.getElem?_cons_succ]; done) | (simp only [List.getElem?_toArray, List.getElem?_cons_zero, List.getElem?_cons_succ]; rfl)) (by kernel_rfl) (by kernel_rfl) (by kernel_rfl) (fun _ _ _ h => h) (Or.inr ⟨by rfl, by rfl⟩) (by assumption) ?_)
    try simp only [Act.put, List.setIfInBounds_toArray, List.set_cons_zero, List.set_cons_succ]
    first | (refine wpAnyH_take (i := 44) (v := ?_) (by first | (simp only [List.getElem?_toArray, List.getElem?_cons_zero, List.getElem?_cons_succ]; done) | (simp only [List.getElem?_toArray, List.getElem?_cons_zero, List.getElem?_cons_succ]; rfl)) (by kernel_rfl) (by kernel_rfl) (by kernel_rfl) (fun _ _ _ h => h) (Or.inl ⟨by rfl, ?_⟩) (by assumption) ?_; rotate_left; focus (intro w hSw; (try dsimp only at hSw); go_simp; (try with_reducible rfl))) | (refine wpAnyH_take (i := 44) (v := undef) (by first | (simp only [List.getElem?_toArray, List.getElem?_cons_zero, List.getElem?_cons_succ]; done) | (simp only [List.getElem?_toArray, List.getElem?_cons_zero, List.getElem?_cons_succ]; rfl)) (by kernel_rfl) (by kernel_rfl) (by kernel_rfl) (fun _ _ _ h => h) (Or.inr ⟨by rfl, by rfl⟩) (by assumption) ?_)
    try simp only [Act.put, List.setIfInBounds_toArray, List.set_cons_zero, List.set_cons_succ]
    first | (refine wpAnyH_take (i := 45) (v := ?_) (by first | (simp only [List.getElem?_toArray, List.getElem?_cons_zero, List.getElem?_cons_succ]; done) | (simp only [List.getElem?_toArray, List.getElem?_cons_zero, List.getElem?_cons_succ]; rfl)) (by kernel_rfl) (by kernel_rfl) (by kernel_rfl) (fun _ _ _ h => h) (Or.inl ⟨by rfl, ?_⟩) (by assumption) ?_; rotate_left; focus (intro w hSw; (try dsimp only at hSw); go_simp; (try with_reducible rfl))) | (refine wpAnyH_take (i := 45) (v := undef) (by first | (simp only [List.getElem?_toArray, List.getElem?_cons_zero, List.getElem?_cons_succ]; done) | (simp only [List.getElem?_toArray, List.getElem?_cons_zero, List.getElem?_cons_succ]; rfl)) (by kernel_rfl) (by kernel_rfl) (by kernel_rfl) (fun _ _ _ h => h) (Or.inr ⟨by rfl, by rfl⟩) (by assumption) ?_)
    try simp only [Act.put, List.setIfInBounds_toArray, List.set_cons_zero, List.set_cons_succ]
    refine wpAnyH_done (by kernel_rfl) ?_ _
    refine NoPanic.normal ?_
    go_wp2_with fail
    go_ret
    exact ⟨rfl, FIN.out.trans hE⟩
end Go.Proofs.YtmmkeaokhbmgoaaGreatDoor
