/- soft.least, Least on the state of one variable. -/
import Derived.Test.YtmmkeaokhbmgoaaGreatDoorI4
namespace Go.Proofs.YtmmkeaokhbmgoaaGreatDoor
open Go.RowKit Go.Shelf
attribute [local go_sem] Oper.semAt_some

def bestA : List Unit → Array Value
  | [] => #[.int .i64 1]
  | _ => #[.int .i64 0]
def atA : List Unit → Array Value
  | [] => #[.int .i64 (-1)]
  | _ => #[.int .i64 0]
set_option maxRecDepth 100000 in
set_option maxHeartbeats 2000000 in
theorem oneLeast {w : World} {sb nb tb : Nat} {vc V : Value} (h : One w sb nb tb vc V) (x1 x2 : Value) (hof : ∀ W, Upd [] w W → Calls Tryz.prog 307 #[.int .i64 0, x1, x2] W fun e w' => e = .returned (.int .i64 0) ∧ Upd [] W w') :
    Calls Tryz.prog 277 #[.pointer (some ⟨sb, 0, none⟩), .int .i64 0, .func (.func 307) #[] #[x1, x2]] w fun e w' => e = .returned (.tuple #[.int .i64 0, .int .i64 0]) ∧ Upd [] w w' := by
  refine (callsIn_wide (n := 4)).1 ?_
  refine callsIn_of_wp_marks Tryz.func277 rfl trivial ?_ rfl
  simp only [Tryz.ntmps277, List.size_toArray, List.length_cons, List.length_nil, Nat.reduceAdd, Nat.reduceSub, Array.replicate_succ, Array.replicate_zero, List.push_toArray, List.append_toArray, List.nil_append, List.cons_append]
  have H := Lib.hid h; clear h
  have HOF := Lib.hid hof; clear hof
  have hK : ∀ o, Calls Tryz.prog 73 #[.pointer (some ⟨sb, 0, none⟩)] (w.alloc o) fun e w' => e = .returned (.int .i64 1) ∧ (w.alloc o) = w' := fun o => oneK (H.out.fresh ((Upd.refl _ _).alloc o))
  have HK := Lib.hid hK; clear hK
  gi_wp2_with (refine ⟨trivial, ?_⟩; gi_at_call 73; refine (callsIn_wide.2 (HK.out _)).mono ?_; rintro e w' ⟨rfl, rfl⟩)
  obtain ⟨W0, hW0⟩ : ∃ W0, W0 = (((w.alloc (.cells #[.func (.func 307) #[] #[x1, x2]] 183)).alloc (.cells #[.int .i64 1] 2)).alloc (.cells #[.int .i64 (-1)] 3)) := ⟨_, rfl⟩
  have hu0 : Upd [] w W0 := by rw [hW0]; exact (((Upd.refl _ _).alloc _).alloc _).alloc _
  obtain ⟨fb, hfb⟩ : ∃ fb, fb = w.heap.size := ⟨_, rfl⟩
  obtain ⟨bb, hbb⟩ : ∃ bb, bb = w.heap.size + 1 := ⟨_, rfl⟩
  obtain ⟨ab, hab⟩ : ∃ ab, ab = w.heap.size + 1 + 1 := ⟨_, rfl⟩
  have bF : Blk W0 fb 183 #[.func (.func 307) #[] #[x1, x2]] := by rw [hW0, hfb]; exact ((Blk.new _ _ _).alloc _).alloc _
  have bB : Blk W0 bb 2 #[.int .i64 1] := by
    rw [hW0, hbb]
    have := Blk.new (w.alloc (.cells #[.func (.func 307) #[] #[x1, x2]] 183)) 2 #[.int .i64 1]
    rw [World.size_alloc] at this
    exact this.alloc _
  have bA : Blk W0 ab 3 #[.int .i64 (-1)] := by
    rw [hW0, hab]
    have := Blk.new ((w.alloc (.cells #[.func (.func 307) #[] #[x1, x2]] 183)).alloc (.cells #[.int .i64 1] 2)) 3 #[.int .i64 (-1)]
    rwa [World.size_alloc, World.size_alloc] at this
  rw [← hW0, ← hab, ← hbb, ← hfb]
  have hge : w.heap.size ≤ bb ∧ w.heap.size ≤ ab ∧ fb ≠ bb ∧ fb ≠ ab ∧ bb ≠ ab := by omega
  clear hW0 hfb hbb hab
  have H0 := Lib.hid (H.out.fresh hu0)
  refine ⟨trivial, ?_⟩
  refine (callsIn_wide.2 (oneDom H0.out)).mono ?_
  rintro e w1 ⟨rfl, hu1⟩
  gi_wp2_with (refine ⟨trivial, ?_⟩; gi_at_call 68; refine (callsIn_wide.2 (valuesMake w1)).mono ?_; rintro e w' ⟨rfl, rfl⟩)
  obtain ⟨w2, hw2⟩ : ∃ w2, w2 = w1.alloc (.cells #[.int .u64 1, .int .i64 1] 166) := ⟨_, rfl⟩
  rw [← hw2]
  obtain ⟨vb, hvb⟩ : ∃ vb, vb = w1.heap.size := ⟨_, rfl⟩
  have bV : Blk w2 vb 166 #[.int .u64 1, .int .i64 1] := by rw [hw2, hvb]; exact Blk.new _ _ _
  have hu2 : Upd [] W0 w2 := by rw [hw2]; exact hu1.alloc _
  rw [← hvb]
  have hvc : vb ≠ bb ∧ vb ≠ ab := by have := bB.lt; have := bA.lt; have := hu1.size; omega
  clear hw2 hvb
  have hu02 : Upd [] w w2 := hu0.then_nil hu2
  have H2 := Lib.hid (H.out.fresh hu02)
  have bF2 := bF.upd hu2 (by simp)
  have bB2 := bB.upd hu2 (by simp)
  have bA2 := bA.upd hu2 (by simp)
  refine wpIn_rangeFunc_ownG rfl (by omega) (gf := 151) (lb := #[.pointer (some ⟨vb, 0, none⟩)]) rfl trivial (enters_of Tryz.func151 (by kernel_rfl) rfl)
    (values_stops vb w2 bV H2.out.tab) KeepsBlocks.trans (keepsBlocks_b (by have := bV.lt; simp; omega)) (Below.refl _ _) (fun _ => rfl)
    (fun pre W => Upd [bb, ab] w2 W ∧ Blk W bb 2 (bestA pre) ∧ Blk W ab 3 (atA pre))
    (fun _ _ _ => False)
    (OwnFrom.and (ownFrom_upd [bb, ab] w2 (Nat.le_refl _)) (OwnFrom.and (ownFrom_blk bb 2 bestA) (ownFrom_blk ab 3 atA)))
    (fun _ _ _ _ _ hs _ _ => hs)
    ⟨Upd.refl _ _, bB2, bA2⟩
    (fun x => { tmps := #[.pointer (some ⟨sb, 0, none⟩), .int .i64 0, .func (.func 307) #[] #[x1, x2], undef, undef, .pointer (some ⟨fb, 0, none⟩), .int .i64 0, .int .i64 0, .pointer (some ⟨bb, 0, none⟩), .pointer (some ⟨ab, 0, none⟩), .int .i64 0, undef, .pointer (some ⟨sb, 0, none⟩), .int .i64 1, .pointer (some ⟨sb, 0, none⟩), .int .i64 0, .agg #[.int .u64 1, .int .i64 1], .func (.func 151) #[] #[.pointer (some ⟨vb, 0, none⟩)], .int .i64 0, undef, undef, undef, undef, undef, undef, undef, undef, undef, undef, undef, undef, undef, undef], defers := [] }) ?assign ?body ?done ?stop
  case assign =>
    intro l x W K hK
    gi_wp2
    exact hK
  case body =>
    rintro l pre x W ⟨hU, hB, hA⟩ hlt
    obtain rfl : pre = [] := List.eq_nil_of_length_eq_zero (by omega)
    have hUw := hu02.then hU (by simp [hge])
    have HF := Lib.hid (HOF.out W hUw)
    have f0 := (bF2.upd hU (by simp [hge])).cell 0
    simp at f0
    gi_wp2_with (refine ⟨trivial, ?_⟩; gi_at_call 307; refine (CallsIn.inRound l (callsIn_wide.2 HF.out)).mono ?_; rintro e w3 ⟨rfl, hu3⟩; have hB3 := hB.upd hu3 (by simp); have hA3 := hA.upd hu3 (by simp); have b0 : w3.cell? ⟨bb, 0, none⟩ = some (.int .i64 1) := (by simpa [bestA] using hB3.cell 0); have fb0 := hB3.froz 0; have a0 : w3.cell? ⟨ab, 0, none⟩ = some (.int .i64 (-1)) := (by simpa [atA] using hA3.cell 0); have fa0 := hA3.froz 0)
    have hB4 := (hB3.set 0 (.int .i64 0)).far (p := ⟨ab, 0, none⟩) (by simp [hge]) (.int .i64 0)
    have hA4 := (hA3.far (p := ⟨bb, 0, none⟩) (by simp [Ne.symm hge.2.2.2.2]) (.int .i64 0)).set 0 (.int .i64 0)
    have hU3 : Upd [bb, ab] W ((w3.setCell ⟨bb, 0, none⟩ (.int .i64 0)).setCell ⟨ab, 0, none⟩ (.int .i64 0)) := ((hu3.mono (by simp)).setCell (.inl (by simp)) _).setCell (.inl (by simp)) _
    have hz : 0 < w.heap.size := World.block_lt_of_cell? w _ H.out.tab
    have hs2 := hU.size
    have hs02 := hu02.size
    have hs01 := hu2.size
    have l1 := bB2.lt
    have l2 := bA2.lt
    refine ⟨hU3.keepsFrom (by simp; omega), hU3.keeps (by simp; have := bV.lt; omega), hU.trans hU3, ?_, ?_⟩
    · simpa [bestA] using hB4
    · simpa [atA] using hA4
  case done =>
    rintro D ys W hD rfl ⟨hU, hB, hA⟩ hK
    have b0 : W.cell? ⟨bb, 0, none⟩ = some (.int .i64 0) := by simpa [bestA] using hB.cell 0
    have a0 : W.cell? ⟨ab, 0, none⟩ = some (.int .i64 0) := by simpa [atA] using hA.cell 0
    gi_wp2
    refine wpIn_wide.2 ?_
    go_region
    all_goals gi_wp2
    refine ⟨by simp, .inl ⟨_, _, rfl, run_takeDeferred (show W.drew.heap[D]? = _ from hK), ?_⟩⟩
    exact ⟨_, results_tmp2 rfl _ _ _, rfl, ((hu02.then hU (by simp [hge])).drew).putObj D _ (.inr (by have := hu02.size; omega))⟩
  case stop =>
    rintro D c pre W _ _ h _
    exact h.elim
end Go.Proofs.YtmmkeaokhbmgoaaGreatDoor
