/- plain.Canon of a file without functions. -/
import Derived.Test.YtmmkeaokhbmgoaaGreatDoorC1
import Derived.Deep.RegionHeld3
namespace Go.Proofs.YtmmkeaokhbmgoaaGreatDoor
open Go.RowKit

theorem idxPf0 (f : Value) (w : World) :
    Calls Tryz.prog 108 #[.slice none 0 0, f] w fun e w' => e = .returned (.int .i64 (-1)) ∧ w = w' := by
  go_enter Tryz.func108, Tryz.ntmps108
  go_wp2_with fail
  refine wp_loop_rounds 1 ?_
  rw [rounds_succ]
  go_wp2_with fail
  go_ret
  exact ⟨rfl, rfl⟩
theorem delPf0 (f : Value) (w : World) :
    Calls Tryz.prog 115 #[.slice none 0 0, f] w fun e w' => e = .returned (.slice none 0 0) ∧ w = w' := by
  go_enter Tryz.func115, Tryz.ntmps115
  go_wp2_with (go_at_call 108; refine (idxPf0 _ _).mono ?_; rintro e w' ⟨rfl, rfl⟩)
  go_ret
  exact ⟨rfl, rfl⟩
set_option maxRecDepth 100000 in
theorem len64_0 (w : World) : Calls Tryz.prog 268 #[.int .u64 0] w fun e w' => (∃ n, e = .returned (.int .i64 n)) ∧ w = w' := by
  go_enter Tryz.func268, Tryz.ntmps268
  go_wp2
  go_ret
  exact ⟨⟨_, rfl⟩, rfl⟩
theorem bitsLen_0 (w : World) : Calls Tryz.prog 208 #[.int .u64 0] w fun e w' => (∃ n, e = .returned (.int .i64 n)) ∧ w = w' := by
  go_enter Tryz.func208, Tryz.ntmps208
  go_wp2_with (go_at_call 268; refine (len64_0 _).mono ?_; rintro e w' ⟨⟨n, rfl⟩, rfl⟩)
  go_ret
  exact ⟨⟨_, rfl⟩, rfl⟩
theorem insPf0 (f : Value) (w : World) :
    Calls Tryz.prog 259 #[.slice none 0 0, .int .i64 0, .int .i64 0, f] w fun e w' => e = .returned (.tuple #[]) ∧ w = w' := by
  go_enter Tryz.func259, Tryz.ntmps259
  go_wp2_with fail
  refine wp_loop_rounds 1 ?_
  rw [rounds_succ]
  go_wp2_with fail
  go_end0
  exact ⟨rfl, rfl⟩
set_option maxRecDepth 100000 in
theorem pdqPf0 (f : Value) (n : Int) (w : World) :
    Calls Tryz.prog 207 #[.slice none 0 0, .int .i64 0, .int .i64 0, .int .i64 n, f] w fun e w' => e = .returned (.tuple #[]) ∧ w = w' := by
  go_enter Tryz.func207, Tryz.ntmps207
  go_wp2_with fail
  refine wp_loop_rounds 1 ?_
  rw [rounds_succ]
  go_wp2_with (go_at_call 259; refine (insPf0 _ _).mono ?_; rintro e w' ⟨rfl, rfl⟩)
  (try simp only [Exit.inBlock, Exit.then]); refine bodyPost_ret (results_none rfl _ _ _) rfl ?_
  exact ⟨rfl, rfl⟩
theorem sortPf0 (f : Value) (w : World) :
    Calls Tryz.prog 116 #[.slice none 0 0, f] w fun e w' => e = .returned (.tuple #[]) ∧ w = w' := by
  go_enter Tryz.func116, Tryz.ntmps116
  go_wp2_with fail
  refine (bitsLen_0 w).mono ?_
  rintro e w' ⟨⟨n, rfl⟩, rfl⟩
  go_wp2_with fail
  refine (pdqPf0 _ _ w).mono ?_
  rintro e w' ⟨rfl, rfl⟩
  go_wp2_with fail
  go_end0
  exact ⟨rfl, rfl⟩

def Canon0Post (w : World) (e : Ending) (w' : World) : Prop :=
  ∃ b A c, e = .returned (.tuple #[.pointer (some ⟨b, 0, none⟩), .int .i64 0]) ∧ w.heap.size ≤ b ∧
    Blk w' b 102 #[.string ⟨[116].toArray⟩, .int .i64 1, .slice A 1 c, .slice none 0 0] ∧ Sl w' (List.range w.heap.size) 1 A 1 [intV 1] ∧ 1 ≤ c ∧ Upd [] w w'

set_option maxRecDepth 100000 in
set_option maxHeartbeats 1000000 in
theorem canon0 (b : Nat) (t : TypeId) (A : Option Addr) (c : Nat) (w : World) (hB : Blk w b t #[.string ⟨[116].toArray⟩, .int .i64 1, .slice A 1 c, .slice none 0 0]) (hs : Sl w [] 1 A 1 [intV 1]) :
    Calls Tryz.prog 45 #[.pointer (some ⟨b, 0, none⟩)] w (Canon0Post w) := by
  go_enter Tryz.func45, Tryz.ntmps45
  go_wp2_with fail
  refine (right0 b t A c w hB hs).mono ?_
  rintro e w1 ⟨rfl, hu1⟩
  have hB1 := hB.upd hu1 (by simp)
  have hs1 := hs.upd hu1
  have h0 := hB1.cell 0; have h1 := hB1.cell 1; have h2 := hB1.cell 2; have h3 := hB1.cell 3
  simp at h0 h1 h2 h3
  go_wp2_with fail
  refine wp_loop_rounds 1 ?_
  rw [rounds_succ]
  go_wp2_with fail
  refine (delPf0 _ w1).mono ?_
  rintro e w' ⟨rfl, rfl⟩
  go_wp2_with fail
  refine (sortPf0 _ w1).mono ?_
  rintro e w' ⟨rfl, rfl⟩
  go_wp2_with fail
  have H0 := Lib.hid hs1; clear hs1
  go_region_held3 (fun w' => w'.cell? ⟨b, 0, none⟩ = some (.string ⟨[116].toArray⟩) ∧ w'.cell? ⟨b, 1, none⟩ = some (.int .i64 1) ∧ w'.cell? ⟨b, 2, none⟩ = some (.slice A 1 c) ∧ Upd [] w1 w')
    (first | exact ⟨h0, h1, h2, (Upd.refl _ _).drew⟩ | (have hk := ((Upd.refl [] w1).drew).trans ‹Upd [] w1.drew w5›; exact ⟨hk.cell h0 (by simp), hk.cell h1 (by simp), hk.cell h2 (by simp), hk⟩) | exact (fun (hS : w5.cell? ⟨b, 0, none⟩ = some (.string ⟨[116].toArray⟩) ∧ w5.cell? ⟨b, 1, none⟩ = some (.int .i64 1) ∧ w5.cell? ⟨b, 2, none⟩ = some (.slice A 1 c) ∧ Upd [] w1 w5) => have hk := hS.2.2.2.alloc _; ⟨hk.cell h0 (by simp), hk.cell h1 (by simp), hk.cell h2 (by simp), hk⟩) (by assumption))
    (first | (go_at_call 121; refine (cloneInts_any [] A 1 c [intV 1] _ (H0.out.upd ?_) (by simp [intV, Value.oneCell']) (by decide)).mono ?_; (simp [*]); rintro e w5 ⟨v, rfl, hown, hu⟩; obtain ⟨A3, c3, rfl, hc3⟩ := own_form hown))
  go_wp2_with fail
  refine wp_loop_rounds 1 ?_
  rw [rounds_succ]
  go_wp2_with fail
  go_ret2
  have hu5 : Upd [] w w5 := (hu1.drew).then_nil hu
  exact ⟨w5.heap.size, A3, c3, rfl, hu5.size, Blk.new _ _ _, (Sl.of_own (List.range w.heap.size) hown (by intro x hx; have h := List.mem_range.1 hx; have := hu1.size; simp; omega)).alloc _, hc3, hu5.alloc _⟩
end Go.Proofs.YtmmkeaokhbmgoaaGreatDoor
