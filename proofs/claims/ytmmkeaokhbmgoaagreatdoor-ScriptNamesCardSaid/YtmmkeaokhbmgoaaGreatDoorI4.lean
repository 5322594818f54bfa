/- nc.prune on the state of one variable. -/
import Derived.Test.YtmmkeaokhbmgoaaGreatDoorI3
namespace Go.Proofs.YtmmkeaokhbmgoaaGreatDoor
open Go.RowKit Go.Shelf
attribute [local go_sem] Oper.semAt_some

theorem ownFrom_upd {β : Type} {B : Nat} (F : List Nat) (w0 : World) (hB : w0.heap.size ≤ B) : OwnFrom B (fun (_ : β) W => Upd F w0 W) := fun _ _ _ _ hs hg hr => hs.grown hg (fun k e => .inr (by have := (hr k e).1; omega))
theorem ownFrom_blk {β : Type} {B : Nat} (g : Nat) (t : TypeId) (f : β → Array Value) : OwnFrom B (fun s W => Blk W g t (f s)) := fun s X Y row hs hg hr => by
  show Y.heap[g]? = _
  replace hs : X.heap[g]? = some (.cells (f s) t) := hs
  rw [hg.block g (Array.getElem?_eq_some_iff.1 hs).1 (fun e => by
    obtain ⟨_, o, ho, hc⟩ := hr g e.symm
    rw [hs] at ho; cases ho; cases hc)]
  exact hs
theorem Upd.putObj {F : List Nat} {a w : World} (h : Upd F a w) (l : Nat) (o : Obj) (hl : l ∈ F ∨ a.heap.size ≤ l) : Upd F a (w.putObj l o) := h.grown (grownBy_putObj' w l o) (fun k e => by cases e; exact hl)

set_option maxRecDepth 100000 in
set_option maxHeartbeats 2000000 in
theorem oneNcPrune {w : World} {sb nb tb : Nat} {vc V : Value} (h : One w sb nb tb vc V) : Calls Tryz.prog 229 #[.pointer (some ⟨sb, 0, none⟩), .int .i64 0] w fun e w' => e = .returned (.bool false) ∧ Upd [] w w' := by
  refine (callsIn_wide (n := 4)).1 ?_
  refine callsIn_of_wp_marks Tryz.func229 rfl trivial ?_ rfl
  simp only [Tryz.ntmps229, List.size_toArray, List.length_cons, List.length_nil, Nat.reduceAdd, Nat.reduceSub, Array.replicate_succ, Array.replicate_zero, List.push_toArray, List.append_toArray, List.nil_append, List.cons_append]
  have H := Lib.hid h; clear h
  gi_wp2
  obtain ⟨W0, hW0⟩ : ∃ W0, W0 = (((w.alloc (.cells #[.pointer (some ⟨sb, 0, none⟩)] 26)).alloc (.cells #[.int .i64 0] 3)).alloc (.cells #[.bool false] 4)) := ⟨_, rfl⟩
  have hu0 : Upd [] w W0 := by rw [hW0]; exact (((Upd.refl _ _).alloc _).alloc _).alloc _
  obtain ⟨pb, hpb⟩ : ∃ pb, pb = w.heap.size := ⟨_, rfl⟩
  obtain ⟨ib, hib⟩ : ∃ ib, ib = w.heap.size + 1 := ⟨_, rfl⟩
  obtain ⟨cb, hcb⟩ : ∃ cb, cb = w.heap.size + 1 + 1 := ⟨_, rfl⟩
  have bP : Blk W0 pb 26 #[.pointer (some ⟨sb, 0, none⟩)] := by rw [hW0, hpb]; exact ((Blk.new _ _ _).alloc _).alloc _
  have bI : Blk W0 ib 3 #[.int .i64 0] := by
    rw [hW0, hib]
    have := Blk.new (w.alloc (.cells #[.pointer (some ⟨sb, 0, none⟩)] 26)) 3 #[.int .i64 0]
    rw [World.size_alloc] at this
    exact this.alloc _
  have bC : Blk W0 cb 4 #[.bool false] := by
    rw [hW0, hcb]
    have := Blk.new ((w.alloc (.cells #[.pointer (some ⟨sb, 0, none⟩)] 26)).alloc (.cells #[.int .i64 0] 3)) 4 #[.bool false]
    rwa [World.size_alloc, World.size_alloc] at this
  rw [← hW0, ← hcb, ← hib, ← hpb]
  have hge : w.heap.size ≤ cb ∧ pb ≠ cb ∧ ib ≠ cb := by omega
  clear hW0 hpb hib hcb
  have H0 := Lib.hid (H.out.fresh hu0)
  refine ⟨trivial, ?_⟩
  refine (callsIn_wide.2 (oneDom H0.out)).mono ?_
  rintro e w1 ⟨rfl, hu1⟩
  gi_wp2_with (refine ⟨trivial, ?_⟩; gi_at_call 68; refine (callsIn_wide.2 (valuesMake w1)).mono ?_; rintro e w' ⟨rfl, rfl⟩)
  obtain ⟨w2, hw2⟩ : ∃ w2, w2 = w1.alloc (.cells #[.int .u64 1, .int .i64 1] 166) := ⟨_, rfl⟩
  rw [← hw2]
  obtain ⟨vb, hvb⟩ : ∃ vb, vb = w1.heap.size := ⟨_, rfl⟩
  have bV : Blk w2 vb 166 #[.int .u64 1, .int .i64 1] := by rw [hw2, hvb]; exact Blk.new _ _ _
  have hu2 : Upd [] W0 w2 := by rw [hw2]; exact hu1.alloc _
  rw [← hvb]
  have hvc : vb ≠ cb := by have := bC.lt; have := hu1.size; omega
  clear hw2 hvb
  have hu02 : Upd [] w w2 := hu0.then_nil hu2
  have H2 := Lib.hid (H.out.fresh hu02)
  have bP2 := bP.upd hu2 (by simp)
  have bI2 := bI.upd hu2 (by simp)
  have bC2 := bC.upd hu2 (by simp)
  refine wpIn_rangeFunc_ownG rfl (by omega) (gf := 151) (lb := #[.pointer (some ⟨vb, 0, none⟩)]) rfl trivial (enters_of Tryz.func151 (by kernel_rfl) rfl)
    (values_stops vb w2 bV H2.out.tab) KeepsBlocks.trans (keepsBlocks_b (by have := bV.lt; simp; omega)) (Below.refl _ _) (fun _ => rfl)
    (fun pre W => Upd [cb] w2 W ∧ Blk W cb 4 #[.bool false])
    (fun _ _ _ => False)
    (OwnFrom.and (ownFrom_upd [cb] w2 (Nat.le_refl _)) (ownFrom_blk cb 4 (fun _ => #[.bool false])))
    (fun _ _ _ _ _ hs _ _ => hs)
    ⟨Upd.refl _ _, bC2⟩
    (fun x => { tmps := #[.pointer (some ⟨sb, 0, none⟩), .int .i64 0, .pointer (some ⟨pb, 0, none⟩), .pointer (some ⟨ib, 0, none⟩), .bool false, .pointer (some ⟨cb, 0, none⟩), .int .i64 0, .pointer (some ⟨sb, 0, none⟩), .int .i64 0, .agg #[.int .u64 1, .int .i64 1], .func (.func 151) #[] #[.pointer (some ⟨vb, 0, none⟩)], .int .i64 0, undef, undef, undef, undef, undef, undef, undef, undef, undef], defers := [] }) ?assign ?body ?done ?stop
  case assign =>
    intro l x W K hK
    gi_wp2
    exact hK
  case body =>
    rintro l pre x W ⟨hU, hC⟩ hlt
    have HW := Lib.hid (H.out.fresh (hu02.then hU (by simp [hge])))
    have p0 := (bP2.upd hU (by simpa using hge.2.1)).cell 0
    have i0 := (bI2.upd hU (by simpa using hge.2.2)).cell 0
    simp at p0 i0
    gi_wp2_with (refine ⟨trivial, ?_⟩; gi_at_call 21; refine (CallsIn.inRound l (callsIn_wide.2 (onePrune HW.out))).mono ?_; rintro e w3 ⟨rfl, hu3⟩; have hC3 := hC.upd hu3 (by simp); have c0 : w3.cell? ⟨cb, 0, none⟩ = some (.bool false) := (by simpa using hC3.cell 0); have f0 := hC3.froz 0)
    have hU3 : Upd [cb] W (w3.setCell ⟨cb, 0, none⟩ (.bool false)) := (hu3.mono (by simp)).setCell (.inl (by simp)) _
    have hz : 0 < w.heap.size := World.block_lt_of_cell? w _ H.out.tab
    have hs2 := hU.size
    have hs02 := hu02.size
    refine ⟨hU3.keepsFrom (by have := bC2.lt; simpa using this), hU3.keeps (by simp; have := bV.lt; omega), hU.trans hU3, by simpa using hC3.set 0 (.bool false)⟩
  case done =>
    rintro D ys W hD rfl ⟨hU, hC⟩ hK
    have c0 := hC.cell 0
    simp at c0
    gi_wp2
    refine ⟨by simp, .inl ⟨_, _, rfl, run_takeDeferred hK, ?_⟩⟩
    exact ⟨_, results_tmp rfl _ _ _, rfl, (hu02.then hU (by simp [hge])).putObj D _ (.inr (by have := hu02.size; omega))⟩
  case stop =>
    rintro D c pre W _ _ h _
    exact h.elim
end Go.Proofs.YtmmkeaokhbmgoaaGreatDoor
