/- dom at the set of one value. -/
import Derived.Test.YtmmkeaokhbmgoaaGreatDoorH3
namespace Go.Proofs.YtmmkeaokhbmgoaaGreatDoor
open Go.RowKit Go.Shelf
attribute [local go_sem] Oper.semAt_some

def setV : Value := .agg #[.int .u64 1, .int .i64 1]
theorem domNew1 (w : World) : Calls Tryz.prog 148 #[.int .i64 1] w fun e w' => e = .returned (.tuple #[.agg #[.int .u64 1, .int .i64 1], .int .i64 0]) ∧ Upd [] w w' := by
  go_enter Tryz.func148, Tryz.ntmps148
  go_wp2
  have c0 := (Blk.new w 166 #[.int .u64 1, .int .i64 1]).cell 0
  have c1 := (Blk.new w 166 #[.int .u64 1, .int .i64 1]).cell 1
  simp only [List.getElem?_toArray, List.getElem?_cons_succ, List.getElem?_cons_zero] at c0 c1
  have hU : Upd [] w (w.alloc (.cells #[.int .u64 1, .int .i64 1] 166)) := (Upd.refl _ _).alloc _
  generalize w.alloc (.cells #[.int .u64 1, .int .i64 1] 166) = WF at *
  refine bodyPost_ret (v := .tuple #[.agg #[.int .u64 1, .int .i64 1], .int .i64 0]) (by simp [results, Tryz.results148, go_sem, c0, c1]) rfl ?_
  exact ⟨rfl, hU⟩
theorem domSize1 (w : World) : Calls Tryz.prog 146 #[.agg #[.int .u64 1, .int .i64 1]] w fun e w' => e = .returned (.int .i64 1) ∧ Upd [] w w' := by
  go_enter Tryz.func146, Tryz.ntmps146
  go_wp2
  go_ret
  exact ⟨rfl, (Upd.refl _ _).alloc _⟩
theorem tz1 (w : World) (h : w.cell? ⟨0, 0, none⟩ = some (.int .u8 0)) : Calls Tryz.prog 228 #[.int .u64 1] w fun e w' => e = .returned (.int .i64 0) ∧ w = w' := by
  have e1 : IntKind.u64.wrap (bits BinOp.and IntKind.u64 1 (IntKind.u64.wrap (-1)) * 285870213051353865) / 288230376151711744 = 0 := by decide
  go_enter Tryz.func228, Tryz.ntmps228
  go_wp2
  go_ret
  exact ⟨rfl, rfl⟩
theorem next1 (w : World) (h : w.cell? ⟨0, 0, none⟩ = some (.int .u8 0)) : Calls Tryz.prog 153 #[.agg #[.int .u64 1, .int .i64 1], .int .i64 (-1)] w fun e w' => e = .returned (.int .i64 0) ∧ Upd [] w w' := by
  have ht : ∀ o, (w.alloc o).cell? ⟨0, 0, none⟩ = some (.int .u8 0) := fun o => ((Upd.refl [] w).alloc o).cell h (by simp)
  go_enter Tryz.func153, Tryz.ntmps153
  go_wp2_with (go_at_call 228; refine (tz1 _ (ht _)).mono ?_; rintro e w' ⟨rfl, rfl⟩)
  go_ret
  exact ⟨rfl, (Upd.refl _ _).alloc _⟩
theorem next0 (w : World) : Calls Tryz.prog 153 #[.agg #[.int .u64 1, .int .i64 1], .int .i64 0] w fun e w' => e = .returned (.int .i64 (-1)) ∧ Upd [] w w' := by
  go_enter Tryz.func153, Tryz.ntmps153
  go_wp2
  go_ret
  exact ⟨rfl, (Upd.refl _ _).alloc _⟩
theorem first1 (w : World) (h : w.cell? ⟨0, 0, none⟩ = some (.int .u8 0)) : Calls Tryz.prog 152 #[.agg #[.int .u64 1, .int .i64 1]] w fun e w' => e = .returned (.int .i64 0) ∧ Upd [] w w' := by
  have ht : ∀ o, (w.alloc o).cell? ⟨0, 0, none⟩ = some (.int .u8 0) := fun o => ((Upd.refl [] w).alloc o).cell h (by simp)
  have hu : ∀ o, Upd [] w (w.alloc o) := fun o => (Upd.refl _ _).alloc o
  go_enter Tryz.func152, Tryz.ntmps152
  go_wp2_with (go_at_call 153; refine (next1 _ (ht _)).mono ?_; rintro e w' ⟨rfl, hu1⟩)
  go_ret
  exact ⟨rfl, (hu _).then_nil hu1⟩
theorem has1 (w : World) : Calls Tryz.prog 156 #[.agg #[.int .u64 1, .int .i64 1], .int .i64 0] w fun e w' => e = .returned (.bool true) ∧ Upd [] w w' := by
  have hr : ∀ w : World, Calls Tryz.prog 227 #[.agg #[.int .u64 1, .int .i64 1], .int .i64 0] w fun e w' => e = .returned (.bool true) ∧ Upd [] w w' := by
    intro w
    go_enter Tryz.func227, Tryz.ntmps227
    go_wp2
    go_ret
    exact ⟨rfl, (Upd.refl _ _).alloc _⟩
  have HR := Lib.hid hr; clear hr
  have hb : bits BinOp.and IntKind.u64 1 1 = 1 := by decide
  go_enter Tryz.func156, Tryz.ntmps156
  go_wp2_with fail
  refine (HR.out _).mono ?_
  rintro e w1 ⟨rfl, hu1⟩
  have hu : Upd [] w w1 := ((Upd.refl _ _).alloc _).then_nil hu1
  have c0 := (((Blk.new w 166 #[.int .u64 1, .int .i64 1])).upd hu1 (by simp)).cell 0
  simp at c0
  go_wp2_with fail
  go_ret
  exact ⟨rfl, hu⟩
theorem valuesMake (w : World) : Calls Tryz.prog 68 #[.agg #[.int .u64 1, .int .i64 1]] w fun e w' => e = .returned (.func (.func 151) #[] #[.pointer (some ⟨w.heap.size, 0, none⟩)]) ∧ w' = w.alloc (.cells #[.int .u64 1, .int .i64 1] 166) := by
  go_enter Tryz.func68, Tryz.ntmps68
  go_wp2
  go_ret
  exact ⟨rfl, rfl⟩

set_option maxRecDepth 100000 in
set_option maxHeartbeats 2000000 in
theorem values1 (l sb : Nat) (J Jx : List Unit → World → Prop)
    (hY : ∀ pre x W, J pre W → pre.length < 1 → YieldAt Fence.wide 2 Tryz.prog l #[.int .i64 0] W fun e W' =>
      (e = .returned (.bool true) ∧ J (pre ++ [x]) W' ∧ KeepsBlocks [sb, 0] W W') ∨ (e = .returned (.bool false) ∧ Jx (pre ++ [x]) W'))
    (hJ : ∀ s A B, J s A → Upd [] A B → J s B)
    (W : World) (h0c : W.cell? ⟨sb, 0, none⟩ = some (.int .u64 1)) (h1c : W.cell? ⟨sb, 1, none⟩ = some (.int .i64 1)) (htab : W.cell? ⟨0, 0, none⟩ = some (.int .u8 0)) (h0 : J [] W) :
    CallsIn Fence.wide 3 Tryz.prog 151 #[.func (.yield l) #[] #[], .pointer (some ⟨sb, 0, none⟩)] W fun e W' => (∃ v, e = .returned v) ∧
      ((∃ ys, ys = [()] ∧ J ys W') ∨ (∃ pre, True ∧ Jx pre W')) := by
  refine callsIn_of_wp Tryz.func151 rfl trivial ?_ rfl
  simp only [Tryz.ntmps151, List.size_toArray, List.length_cons, List.length_nil, Nat.reduceAdd, Nat.reduceSub, Array.replicate_succ, Array.replicate_zero, List.push_toArray, List.append_toArray, List.nil_append, List.cons_append]
  gi_wp2_with (refine ⟨trivial, ?_⟩; gi_at_call 152; refine (callsIn_wide.2 (first1 W htab)).mono ?_; rintro e w1 ⟨rfl, hu1⟩)
  have a0 := hu1.cell h0c (by simp)
  have a1 := hu1.cell h1c (by simp)
  have hJ1 : J [] w1 := hJ _ _ _ h0 hu1
  clear h0c h1c h0 htab hu1
  gi_loopw [3] (fun i wr => ((i = .int .i64 0 ∧ J [] wr) ∨ (i = .int .i64 (-1) ∧ J [()] wr)) ∧ wr.cell? ⟨sb, 0, none⟩ = some (.int .u64 1) ∧ wr.cell? ⟨sb, 1, none⟩ = some (.int .i64 1)) (fun i _ => (1 + intOf i).toNat)
  case atStart => exact ⟨.inl ⟨rfl, hJ1⟩, a0, a1⟩
  case round =>
    obtain ⟨hJs, hs', hn'⟩ := hrel
    rcases hJs with ⟨rfl, hJs⟩ | ⟨rfl, hJs⟩
    · obtain ⟨fn, tmps, assign, body, hy, hR⟩ := hY _ () wr hJs (by simp)
      gi_wp2
      refine hR.mono ?_
      rintro e W3 (⟨rfl, hJ3, hk3⟩ | ⟨rfl, hJx3⟩)
      · have b0 : W3.cell? ⟨sb, 0, none⟩ = some (.int .u64 1) := (hk3.cell (p := ⟨sb, 0, none⟩) (by simp)).trans hs'
        have b1 : W3.cell? ⟨sb, 1, none⟩ = some (.int .i64 1) := (hk3.cell (p := ⟨sb, 1, none⟩) (by simp)).trans hn'
        gi_wp2_with (refine ⟨trivial, ?_⟩; gi_at_call 153; refine (callsIn_wide.2 (next0 W3)).mono ?_; rintro e w4 ⟨rfl, hu4⟩)
        go_roundw
        case rel => exact ⟨.inr ⟨rfl, hJ _ _ _ hJ3 hu4⟩, hu4.cell b0 (by simp), hu4.cell b1 (by simp)⟩
        case measure => decide
      · gi_wp2
        refine bodyPost_ret (results_none rfl _ _ _) rfl ?_
        exact ⟨⟨_, rfl⟩, .inr ⟨_, trivial, hJx3⟩⟩
    · gi_wp2
      go_end0
      exact ⟨⟨_, rfl⟩, .inl ⟨_, rfl, hJs⟩⟩
theorem Upd.grownNone {A B : World} (h : Upd [] A B) : A.grownBy B none := ⟨h.os, h.tape, h.output, h.size, fun k hk _ => h.block k hk (by simp)⟩
theorem values_stops (sb : Nat) (w : World) (hB : Blk w sb 166 #[.int .u64 1, .int .i64 1]) (htab : w.cell? ⟨0, 0, none⟩ = some (.int .u8 0)) :
    SeqStopsK Fence.wide 3 Tryz.prog 151 #[.pointer (some ⟨sb, 0, none⟩)] (fun _ : Unit => #[.int .i64 0]) (KeepsBlocks [sb, 0]) (fun ys => ys = [()]) (fun _ => True) 1 w := fun l J Jx W hW hJ _ hY h0 => by
  have hu := Upd.of_below (F := []) hW (Nat.le_refl _)
  have c0 := (hB.upd hu (by simp)).cell 0
  have c1 := (hB.upd hu (by simp)).cell 1
  exact values1 l sb J Jx hY (fun s A B h1 h2 => hJ s A B none h1 h2.grownNone (by simp)) W c0 c1 (hu.cell htab (by simp)) h0
end Go.Proofs.YtmmkeaokhbmgoaaGreatDoor
