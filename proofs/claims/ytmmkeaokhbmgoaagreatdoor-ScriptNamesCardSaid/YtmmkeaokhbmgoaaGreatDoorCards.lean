/-
  DERIVED. GIVEN WITH THE SEED: THE CARDS: each row of YtmmkeaokhbmgoaaGreatDoorRows.lean that lists a variable, with what it lists TIED to the program's text (the seventh form; the later family's looks); each row that meets fmt, with fmt's text TOLD by the authors' own Lean function (tested against real Go, not proved from fmt's source: count such statements apart). THE CARD IS WHAT COUNTS. Prove the row's statement (the work); the ties are given (YtmmkeaokhbmgoaaGreatDoorTie.lean); close each card by the builder's one call (the guide's Derived/Test/ToyasCard.lean, 'card_holds'). Laid BY PROGRAM, IN A SANDBOX (cutbox-door.mjs). By AI agents, Wed Nov 11 2026. No macro, syntax, notation, axiom, sorry.
-/
import Derived.Test.YtmmkeaokhbmgoaaGreatDoorRows
import GoSem.ClaimSeven
namespace Go.Proofs.YtmmkeaokhbmgoaaGreatDoor
namespace Rows

/-- THE TIED CARD OF 'pennyweightlaw24.ScriptNames'. -/
def scriptNamesCard : Claim7 := { stood := { row := scriptNamesRow, standIns := [], harness := (true, "1954b1a574d8b40fed7a19dc329d293897f0b755527ff78b9692aaadcf2cdbe1"), looks := false }, kinds := [], alts := [], laidByText := true, laidKinds := [.data, .data, .data], laidTests := true, laidLooks := .later }
def ScriptNamesCardSaid : Prop := Claim7.holds Tryz.pinned (.plain (OpenSpec.ofChange scriptNamesSpec)) scriptNamesCard

/-- THE SECOND FORM's CARD OF 'pennyweightlaw24.ScriptNames'. -/
def scriptNamesUptoCard : Claim7 := { stood := { row := scriptNamesUptoRow, standIns := [], harness := (true, "1954b1a574d8b40fed7a19dc329d293897f0b755527ff78b9692aaadcf2cdbe1"), looks := false }, kinds := [], alts := [], laidByText := true, laidKinds := [.data, .data, .data], laidTests := true, laidLooks := .later }
def ScriptNamesUptoCardSaid : Prop := Claim7.holds Tryz.pinned (.plain (OpenSpec.upto scriptNamesSpec)) scriptNamesUptoCard
end Rows
end Go.Proofs.YtmmkeaokhbmgoaaGreatDoor
