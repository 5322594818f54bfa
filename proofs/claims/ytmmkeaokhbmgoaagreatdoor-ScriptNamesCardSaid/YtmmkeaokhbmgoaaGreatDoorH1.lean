/- slices.Chunk of a text that is one chunk; script.Read of it; awake. -/
import Derived.Test.YtmmkeaokhbmgoaaGreatDoorG1
import Derived.RangeFuncNested
import Derived.RangeFuncBound
import Derived.RangeFuncCalls
import Derived.RangeFuncLeaves
import Derived.Shelf.Abstract
import Derived.Shelf.RegionOpen
import Derived.OwnWalkIn
import Derived.TacticsInMore
import Derived.LoopNIn
import Derived.LoopIn
namespace Go.Proofs.YtmmkeaokhbmgoaaGreatDoor
open Go.RowKit Go.Shelf
attribute [local go_sem] Oper.semAt_some

/-- These blocks lie as they lay. -/
def KeepsBlocks (ks : List Nat) (W W' : World) : Prop := ∀ k ∈ ks, W'.heap[k]? = W.heap[k]?
theorem KeepsBlocks.trans {ks : List Nat} {A B C : World} (h : KeepsBlocks ks A B) (h' : KeepsBlocks ks B C) : KeepsBlocks ks A C := fun k hk => (h' k hk).trans (h k hk)
theorem KeepsBlocks.cell {ks : List Nat} {A B : World} (h : KeepsBlocks ks A B) {p : Addr} (hp : p.block ∈ ks) : B.cell? p = A.cell? p := World.cell?_of_block (h _ hp)
theorem keepsBlocks_b {ks : List Nat} {w : World} (hk : ∀ k ∈ ks, k < w.heap.size) (W : World) (l : Nat) (o o' : Obj) (hl : w.heap.size ≤ l) (_ : W.heap[l]? = some o) (_ : o.isCells = false) (_ : o.isWalk = false) : KeepsBlocks ks W (W.putObj l o') :=
  fun k hks => World.putObj_heap_other (by have := hk k hks; omega)
theorem Upd.keeps {F ks : List Nat} {A B : World} (h : Upd F A B) (hk : ∀ k ∈ ks, k < A.heap.size ∧ k ∉ F) : KeepsBlocks ks A B := fun k hks => h.block k (hk k hks).1 (hk k hks).2

set_option maxRecDepth 100000 in
set_option maxHeartbeats 2000000 in
/-- The iterator's body: one round, of the whole text (two bytes, chunks of six). -/
theorem chunk1 (l sb nb g : Nat) (J Jx : List Unit → World → Prop)
    (hY : ∀ pre x W, J pre W → pre.length < 1 → YieldAt Fence.wide 2 Tryz.prog l #[.slice (some ⟨g, 0, none⟩) 2 2] W fun e W' =>
      (e = .returned (.bool true) ∧ J (pre ++ [x]) W' ∧ KeepsBlocks [sb, nb] W W') ∨ (e = .returned (.bool false) ∧ Jx (pre ++ [x]) W'))
    (hJ : ∀ s A, J s A → J s A.drew)
    (W : World) (hs : W.cell? ⟨sb, 0, none⟩ = some (.slice (some ⟨g, 0, none⟩) 2 2)) (hn : W.cell? ⟨nb, 0, none⟩ = some (.int .i64 6)) (h0 : J [] W) :
    CallsIn Fence.wide 3 Tryz.prog 93 #[.func (.yield l) #[] #[], .pointer (some ⟨sb, 0, none⟩), .pointer (some ⟨nb, 0, none⟩)] W fun e W' => (∃ v, e = .returned v) ∧
      ((∃ ys, ys = [()] ∧ J ys W') ∨ (∃ pre, True ∧ Jx pre W')) := by
  refine callsIn_of_wp Tryz.func93 rfl trivial ?_ rfl
  simp only [Tryz.ntmps93, List.size_toArray, List.length_cons, List.length_nil, Nat.reduceAdd, Nat.reduceSub, Array.replicate_succ, Array.replicate_zero, List.push_toArray, List.append_toArray, List.nil_append, List.cons_append]
  gi_wp2
  gi_loopw [4] (fun i wr => ((i = .int .i64 0 ∧ J [] wr) ∨ (i = .int .i64 6 ∧ J [()] wr)) ∧ wr.cell? ⟨sb, 0, none⟩ = some (.slice (some ⟨g, 0, none⟩) 2 2) ∧ wr.cell? ⟨nb, 0, none⟩ = some (.int .i64 6)) (fun i _ => 6 - (intOf i).toNat)
  case atStart => exact ⟨.inl ⟨rfl, h0⟩, hs, hn⟩
  case round =>
    obtain ⟨hJs, hs', hn'⟩ := hrel
    rcases hJs with ⟨rfl, hJs⟩ | ⟨rfl, hJs⟩
    · have hJd : J [] wr.drew := hJ _ _ hJs
      obtain ⟨fn, tmps, assign, body, hy, hR⟩ := hY _ () wr.drew hJd (by simp)
      gi_wp2
      refine wpIn_wide.2 ?_
      go_region
      all_goals gi_wp2
      refine hR.mono ?_
      rintro e W3 (⟨rfl, hJ3, hk3⟩ | ⟨rfl, hJx3⟩)
      · have hn3 : W3.cell? ⟨nb, 0, none⟩ = some (.int .i64 6) := (hk3.cell (p := ⟨nb, 0, none⟩) (by simp)).trans hn'
        have hs3 : W3.cell? ⟨sb, 0, none⟩ = some (.slice (some ⟨g, 0, none⟩) 2 2) := (hk3.cell (p := ⟨sb, 0, none⟩) (by simp)).trans hs'
        gi_wp2
        go_roundw
        case rel => exact ⟨.inr ⟨rfl, hJ3⟩, hs3, hn3⟩
        case measure => decide
      · gi_wp2
        refine bodyPost_ret (results_none rfl _ _ _) rfl ?_
        exact ⟨⟨_, rfl⟩, .inr ⟨_, trivial, hJx3⟩⟩
    · gi_wp2
      go_end0
      exact ⟨⟨_, rfl⟩, .inl ⟨_, rfl, hJs⟩⟩

theorem chunkMake (A : Option Addr) (n c : Nat) (w : World) : Calls Tryz.prog 28 #[.slice A n c, .int .i64 6] w fun e w' =>
    e = .returned (.func (.func 93) #[] #[.pointer (some ⟨w.heap.size, 0, none⟩), .pointer (some ⟨w.heap.size + 1, 0, none⟩)]) ∧ w' = (w.alloc (.cells #[.slice A n c] 37)).alloc (.cells #[.int .i64 6] 3) := by
  go_enter Tryz.func28, Tryz.ntmps28
  go_wp2
  go_ret
  exact ⟨rfl, rfl⟩
theorem chunk_stops (sb nb g : Nat) (w : World) (hs : w.cell? ⟨sb, 0, none⟩ = some (.slice (some ⟨g, 0, none⟩) 2 2)) (hn : w.cell? ⟨nb, 0, none⟩ = some (.int .i64 6)) (hsb : sb < w.heap.size) (hnb : nb < w.heap.size) :
    SeqStopsK Fence.wide 3 Tryz.prog 93 #[.pointer (some ⟨sb, 0, none⟩), .pointer (some ⟨nb, 0, none⟩)] (fun _ : Unit => #[.slice (some ⟨g, 0, none⟩) 2 2]) (KeepsBlocks [sb, nb]) (fun ys => ys = [()]) (fun _ => True) 1 w := fun l J Jx W hW hJ _ hY h0 =>
  chunk1 l sb nb g J Jx hY (fun s A h1 => hJ s A _ none h1 ⟨rfl, rfl, rfl, Nat.le_refl _, fun _ _ _ => rfl⟩ (by simp)) W ((hW.cell (p := ⟨sb, 0, none⟩) (show sb < _ by omega)).trans hs) ((hW.cell (p := ⟨nb, 0, none⟩) (show nb < _ by omega)).trans hn) h0
end Go.Proofs.YtmmkeaokhbmgoaaGreatDoor
