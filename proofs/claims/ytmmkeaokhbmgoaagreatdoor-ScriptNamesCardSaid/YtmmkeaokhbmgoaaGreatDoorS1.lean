/- The leaves of package scan: 'in', 'between' answer as their ranges say; no condition. -/
import Derived.Test.YtmmkeaokhbmgoaaGreatDoorProg
import Derived.WalkKit
import Derived.WalkSpells
import Derived.WalkLawsBesides
namespace Go.Proofs.YtmmkeaokhbmgoaaGreatDoor
open Go.RowKit

def inB (b : Int) : Bool := decide (33 ≤ b) && decide (b ≤ 126)
def btB (b : Int) : Bool := b == 32 || (b == 9 || (b == 10 || b == 13))

theorem in_any (b : Int) (w : World) :
    Calls Tryz.prog 100 #[.int .u8 b] w fun e w' => e = .returned (.bool (inB b)) ∧ w = w' := by
  by_cases h1 : 33 ≤ b
  all_goals
    go_enter Tryz.func100, Tryz.ntmps100
    go_wp2
    go_ret
    simp [inB]
    try omega

theorem between_any (b : Int) (w : World) :
    Calls Tryz.prog 101 #[.int .u8 b] w fun e w' => e = .returned (.bool (btB b)) ∧ w = w' := by
  by_cases h1 : b = 32
  · subst h1
    go_enter Tryz.func101, Tryz.ntmps101
    go_wp2
    go_ret
    simp [btB]
  have h1' : (b == 32) = false := by simpa using h1
  by_cases h2 : b = 9
  · subst h2
    go_enter Tryz.func101, Tryz.ntmps101
    go_wp2
    go_ret
    simp [btB]
  have h2' : (b == 9) = false := by simpa using h2
  by_cases h3 : b = 10
  · subst h3
    go_enter Tryz.func101, Tryz.ntmps101
    go_wp2
    go_ret
    simp [btB]
  have h3' : (b == 10) = false := by simpa using h3
  go_enter Tryz.func101, Tryz.ntmps101
  go_wp2
  go_ret
  simp [btB, h1', h2', h3']
end Go.Proofs.YtmmkeaokhbmgoaaGreatDoor
