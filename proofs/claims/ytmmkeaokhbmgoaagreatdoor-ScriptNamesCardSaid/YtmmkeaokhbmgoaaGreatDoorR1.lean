/- The one text that ScriptNames reads: its words, by reckoning. -/
import Derived.Test.YtmmkeaokhbmgoaaGreatDoorS7
namespace Go.Proofs.YtmmkeaokhbmgoaaGreatDoor
open Go.RowKit
def L0 : List UInt8 := [116, 32, 49, 32, 49, 32, 48, 32, 49, 32, 49]
def rd0 (k : Nat) : Rd := ⟨k, -1, 0, 0, 0, 0, 0⟩
theorem l0_w : rdWord L0 (rd0 0) = ([116], 0, rd0 1) := by
  simp [rdWord, rd0, wordR, L0, skipTo, wordTo, btB, inB]
theorem l0_n1 : rdNumber L0 (rd0 1) 1 4611686018427387904 = (1, 2, rd0 3) := by
  simp [rdNumber, rdWord, rd0, wordR, L0, skipTo, wordTo, btB, inB, readN, digs]
theorem l0_n3 : rdNumber L0 (rd0 3) 1 4611686018427387904 = (1, 4, rd0 5) := by
  simp [rdNumber, rdWord, rd0, wordR, L0, skipTo, wordTo, btB, inB, readN, digs]
theorem l0_n5 : rdNumber L0 (rd0 5) 0 4611686018427387904 = (0, 6, rd0 7) := by
  simp [rdNumber, rdWord, rd0, wordR, L0, skipTo, wordTo, btB, inB, readN, digs]
theorem l0_n7 : rdNumber L0 (rd0 7) 1 4611686018427387904 = (1, 8, rd0 9) := by
  simp [rdNumber, rdWord, rd0, wordR, L0, skipTo, wordTo, btB, inB, readN, digs]
theorem l0_n9 : rdNumber L0 (rd0 9) 1 1 = (1, 10, rd0 11) := by
  simp [rdNumber, rdWord, rd0, wordR, L0, skipTo, wordTo, btB, inB, readN, digs]
theorem l0_end : wordR L0 11 = ([], 11, 2, 11, -1) := by
  simp [wordR, L0, skipTo, wordTo]
theorem rd0_good (k : Nat) : (rd0 k).good := fun _ => rfl
theorem rd0_large (k : Nat) (p : Int) : rdLarge (rd0 k) false p = rd0 k := by simp [rdLarge]
end Go.Proofs.YtmmkeaokhbmgoaaGreatDoor
