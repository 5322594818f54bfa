/- script: Name, Safe, Do on nil, Do of a kind that is none. -/
import Derived.Test.YtmmkeaokhbmgoaaGreatDoorF3
namespace Go.Proofs.YtmmkeaokhbmgoaaGreatDoor
open Go.RowKit

def namesA : Array Value := #[.string ⟨#[112, 114, 111, 106, 101, 99, 116]⟩, .string ⟨#[101, 120, 116, 101, 110, 100]⟩, .string ⟨#[108, 111, 119, 101, 114]⟩, .string ⟨#[114, 97, 105, 115, 101]⟩, .string ⟨#[112, 114, 117, 110, 101]⟩, .string ⟨#[97, 115, 115, 105, 103, 110]⟩, .string ⟨#[101, 110, 102, 111, 114, 99, 101]⟩, .string ⟨#[101, 108, 105, 109, 105, 110, 97, 116, 101]⟩, .string ⟨#[97, 108, 108]⟩, .string ⟨#[109, 97, 114, 107]⟩, .string ⟨#[117, 110, 100, 111]⟩]
def nameV (k : Int) : ByteArray := if 0 ≤ k then (match namesA[k.toNat]? with | some (.string s) => s | _ => ByteArray.empty) else ByteArray.empty
theorem namesA_get (k : Nat) (h : k < 11) : namesA[k]? = some (.string (nameV k)) := by
  have h' : k = 0 ∨ k = 1 ∨ k = 2 ∨ k = 3 ∨ k = 4 ∨ k = 5 ∨ k = 6 ∨ k = 7 ∨ k = 8 ∨ k = 9 ∨ k = 10 := by omega
  rcases h' with rfl | rfl | rfl | rfl | rfl | rfl | rfl | rfl | rfl | rfl | rfl <;> rfl
theorem nameV_out (k : Int) (h : k < 0 ∨ 11 ≤ k) : nameV k = ByteArray.empty := by
  unfold nameV
  split
  · rw [Array.getElem?_eq_none (by simp [namesA]; omega)]
  · rfl

theorem scriptName (k : Int) (w : World) : Calls Tryz.prog 6 #[.int .i64 k] w fun e w' => e = .returned (.string (nameV k)) ∧ Upd [] w w' := by
  by_cases h : 0 ≤ k ∧ k < 11
  · obtain ⟨n, rfl⟩ := Int.eq_ofNat_of_zero_le h.1
    have hn : n < 11 := by omega
    have hc : ∀ w : World, (w.alloc (.cells namesA 64)).cell? ⟨w.heap.size, n, none⟩ = some (.string (nameV n)) := fun w => by rw [(Blk.new w _ namesA).cell, namesA_get n hn]
    unfold namesA at hc
    have h1 : (0 : Int) ≤ n := by omega
    have h2 : (n : Int) < 11 := by omega
    clear h
    go_enter Tryz.func6, Tryz.ntmps6
    go_wp2
    go_ret
    exact ⟨rfl, (Upd.refl _ _).alloc _⟩
  · rw [nameV_out k (by omega)]
    by_cases h0 : k < 0
    all_goals
      go_enter Tryz.func6, Tryz.ntmps6
      go_wp2
      go_ret
      exact ⟨rfl, (Upd.refl _ _).alloc _⟩
def safeK (k : Int) : Bool := decide (0 ≤ k) && decide (k ≤ 4) || decide (k = 6)
theorem scriptSafe (k a b c d : Int) (w : World) : Calls Tryz.prog 7 #[.agg #[.int .i64 k, .int .i64 a, .int .i64 b, .int .i64 c, .int .i64 d]] w fun e w' => e = .returned (.bool (safeK k)) ∧ Upd [] w w' := by
  go_enter Tryz.func7, Tryz.ntmps7
  go_wp2
  all_goals go_ret
  all_goals simp only [beq_iff_eq, beq_eq_false_iff_ne, ne_eq] at *
  all_goals refine ⟨?_, (Upd.refl _ _).alloc _⟩
  all_goals unfold safeK
  all_goals first
    | (subst_vars; rfl)
    | (have e1 : (decide (0 ≤ k) && decide (k ≤ 4) || decide (k = 6)) = false := by
         have : ¬ (0 ≤ k ∧ k ≤ 4) := by omega
         have h6 : ¬ k = 6 := by omega
         simp only [h6, decide_false, Bool.or_false]
         simp only [Bool.and_eq_false_iff, decide_eq_false_iff_not]
         omega
       rw [e1]; rfl)
theorem doNil (k a b c d : Int) (w : World) : Calls Tryz.prog 8 #[.pointer none, .agg #[.int .i64 k, .int .i64 a, .int .i64 b, .int .i64 c, .int .i64 d]] w fun e w' => e = .returned (.int .i64 2) ∧ Upd [] w w' := by
  go_enter Tryz.func8, Tryz.ntmps8
  go_wp2
  go_ret
  exact ⟨rfl, (Upd.refl _ _).alloc _⟩
theorem doArg (sb : Nat) (k a b c d : Int) (hk : 11 ≤ k) (w : World) : Calls Tryz.prog 8 #[.pointer (some ⟨sb, 0, none⟩), .agg #[.int .i64 k, .int .i64 a, .int .i64 b, .int .i64 c, .int .i64 d]] w fun e w' => e = .returned (.int .i64 1) ∧ Upd [] w w' := by
  go_enter Tryz.func8, Tryz.ntmps8
  go_wp2
  go_ret
  exact ⟨rfl, (Upd.refl _ _).alloc _⟩
end Go.Proofs.YtmmkeaokhbmgoaaGreatDoor
