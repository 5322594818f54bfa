/- Closed facts of the row of ScriptNames, each by itself. -/
import Derived.Test.YtmmkeaokhbmgoaaGreatDoorCards
import Derived.ProofKit
import Derived.Deep.DeepHandedRow
namespace Go.Proofs.YtmmkeaokhbmgoaaGreatDoor.ScriptNames
open Go.ChangeShapes Go.WideShapes Go.ChangeAt Go.RowKit
theorem named : Tryz.pinned.checked.prog.funcNamed Rows.scriptNamesRow.func = some 3 := by kernel_rfl
def ask0 (P : Program) (f : FuncId) (fn : Func) (s : ChangeSpec) (c : OpenClaim) : Bool := c.wf (OpenSpec.ofChange s)
theorem fact0 : ask0 Tryz.pinned.checked.prog 3 Tryz.f3 (OpenSpec.ofChange Rows.scriptNamesSpec).bare Rows.scriptNamesRow = true := by kernel_rfl
def ask1 (P : Program) (f : FuncId) (fn : Func) (s : ChangeSpec) (c : OpenClaim) : Bool := laidOutB P
theorem fact1 : ask1 Tryz.pinned.checked.prog 3 Tryz.f3 (OpenSpec.ofChange Rows.scriptNamesSpec).bare Rows.scriptNamesRow = true := by kernel_rfl
def ask2 (P : Program) (f : FuncId) (fn : Func) (s : ChangeSpec) (c : OpenClaim) : Bool := mapsRowed P
theorem fact2 : ask2 Tryz.pinned.checked.prog 3 Tryz.f3 (OpenSpec.ofChange Rows.scriptNamesSpec).bare Rows.scriptNamesRow = true := by kernel_rfl
def ask3 (P : Program) (f : FuncId) (fn : Func) (s : ChangeSpec) (c : OpenClaim) : Bool := fn.params.all (P.readableRec ·)
theorem fact3 : ask3 Tryz.pinned.checked.prog 3 Tryz.f3 (OpenSpec.ofChange Rows.scriptNamesSpec).bare Rows.scriptNamesRow = true := by kernel_rfl
def ask4 (P : Program) (f : FuncId) (fn : Func) (s : ChangeSpec) (c : OpenClaim) : Bool := namedTie P c.named s.vars
theorem fact4 : ask4 Tryz.pinned.checked.prog 3 Tryz.f3 (OpenSpec.ofChange Rows.scriptNamesSpec).bare Rows.scriptNamesRow = true := by kernel_rfl
def ask5 (P : Program) (f : FuncId) (fn : Func) (s : ChangeSpec) (c : OpenClaim) : Bool := (c.stops == [])
theorem fact5 : ask5 Tryz.pinned.checked.prog 3 Tryz.f3 (OpenSpec.ofChange Rows.scriptNamesSpec).bare Rows.scriptNamesRow = true := by kernel_rfl
def ask6 (P : Program) (f : FuncId) (fn : Func) (s : ChangeSpec) (c : OpenClaim) : Bool := (P.stops == [])
theorem fact6 : ask6 Tryz.pinned.checked.prog 3 Tryz.f3 (OpenSpec.ofChange Rows.scriptNamesSpec).bare Rows.scriptNamesRow = true := by kernel_rfl
def ask7 (P : Program) (f : FuncId) (fn : Func) (s : ChangeSpec) (c : OpenClaim) : Bool := (c.knobs == [])
theorem fact7 : ask7 Tryz.pinned.checked.prog 3 Tryz.f3 (OpenSpec.ofChange Rows.scriptNamesSpec).bare Rows.scriptNamesRow = true := by kernel_rfl
def ask8 (P : Program) (f : FuncId) (fn : Func) (s : ChangeSpec) (c : OpenClaim) : Bool := (P.stopKnobs == [])
theorem fact8 : ask8 Tryz.pinned.checked.prog 3 Tryz.f3 (OpenSpec.ofChange Rows.scriptNamesSpec).bare Rows.scriptNamesRow = true := by kernel_rfl
def ask9 (P : Program) (f : FuncId) (fn : Func) (s : ChangeSpec) (c : OpenClaim) : Bool := (c.inPlace == P.inPlace f)
theorem fact9 : ask9 Tryz.pinned.checked.prog 3 Tryz.f3 (OpenSpec.ofChange Rows.scriptNamesSpec).bare Rows.scriptNamesRow = true := by kernel_rfl
def ask10 (P : Program) (f : FuncId) (fn : Func) (s : ChangeSpec) (c : OpenClaim) : Bool := (c.unfollowed == P.unfollowed f)
theorem fact10 : ask10 Tryz.pinned.checked.prog 3 Tryz.f3 (OpenSpec.ofChange Rows.scriptNamesSpec).bare Rows.scriptNamesRow = true := by kernel_rfl
def ask11 (P : Program) (f : FuncId) (fn : Func) (s : ChangeSpec) (c : OpenClaim) : Bool := (c.recurses == P.recurses f)
theorem fact11 : ask11 Tryz.pinned.checked.prog 3 Tryz.f3 (OpenSpec.ofChange Rows.scriptNamesSpec).bare Rows.scriptNamesRow = true := by kernel_rfl
def ask12 (P : Program) (f : FuncId) (fn : Func) (s : ChangeSpec) (c : OpenClaim) : Bool := (c.named == P.varsNamed f)
theorem fact12 : ask12 Tryz.pinned.checked.prog 3 Tryz.f3 (OpenSpec.ofChange Rows.scriptNamesSpec).bare Rows.scriptNamesRow = true := by kernel_rfl
def ask13 (P : Program) (f : FuncId) (fn : Func) (s : ChangeSpec) (c : OpenClaim) : Bool := (c.maps == (fn.params.toList ++ s.plain.varTypes P).any (P.mapsRec ·))
theorem fact13 : ask13 Tryz.pinned.checked.prog 3 Tryz.f3 (OpenSpec.ofChange Rows.scriptNamesSpec).bare Rows.scriptNamesRow = true := by kernel_rfl
def ask14 (P : Program) (f : FuncId) (fn : Func) (s : ChangeSpec) (c : OpenClaim) : Bool := (c.ifaces == (fn.params.toList ++ s.plain.varTypes P).any (P.ifacesRec ·))
theorem fact14 : ask14 Tryz.pinned.checked.prog 3 Tryz.f3 (OpenSpec.ofChange Rows.scriptNamesSpec).bare Rows.scriptNamesRow = true := by kernel_rfl
def ask15 (P : Program) (f : FuncId) (fn : Func) (s : ChangeSpec) (c : OpenClaim) : Bool := (c.mapsOut == P.mapsAmong fn.resultTypes.toList)
theorem fact15 : ask15 Tryz.pinned.checked.prog 3 Tryz.f3 (OpenSpec.ofChange Rows.scriptNamesSpec).bare Rows.scriptNamesRow = true := by kernel_rfl
def ask16 (P : Program) (f : FuncId) (fn : Func) (s : ChangeSpec) (c : OpenClaim) : Bool := (c.loops == (fn.params.toList ++ s.plain.varTypes P).any (P.loopsFrom ·))
theorem fact16 : ask16 Tryz.pinned.checked.prog 3 Tryz.f3 (OpenSpec.ofChange Rows.scriptNamesSpec).bare Rows.scriptNamesRow = true := by kernel_rfl
def ask17 (P : Program) (f : FuncId) (fn : Func) (s : ChangeSpec) (c : OpenClaim) : Bool := (c.wideKeys == (fn.params.toList ++ s.plain.varTypes P ++ fn.resultTypes.toList).any (P.wideKeysFrom ·))
theorem fact17 : ask17 Tryz.pinned.checked.prog 3 Tryz.f3 (OpenSpec.ofChange Rows.scriptNamesSpec).bare Rows.scriptNamesRow = true := by kernel_rfl
def ask18 (P : Program) (f : FuncId) (fn : Func) (s : ChangeSpec) (c : OpenClaim) : Bool := s.vars.all (P.varReadable ·)
theorem fact18 : ask18 Tryz.pinned.checked.prog 3 Tryz.f3 (OpenSpec.ofChange Rows.scriptNamesSpec).bare Rows.scriptNamesRow = true := by kernel_rfl
def ask19 (P : Program) (f : FuncId) (fn : Func) (s : ChangeSpec) (c : OpenClaim) : Bool := fn.resultTypes.all (fun t => P.readableRec t && decide (t < P.types.size))
theorem fact19 : ask19 Tryz.pinned.checked.prog 3 Tryz.f3 (OpenSpec.ofChange Rows.scriptNamesSpec).bare Rows.scriptNamesRow = true := by kernel_rfl
def ask20 (P : Program) (f : FuncId) (fn : Func) (s : ChangeSpec) (c : OpenClaim) : Bool := (c.ifacesOut == fn.resultTypes.toList.any (P.ifacesRec ·))
theorem fact20 : ask20 Tryz.pinned.checked.prog 3 Tryz.f3 (OpenSpec.ofChange Rows.scriptNamesSpec).bare Rows.scriptNamesRow = true := by kernel_rfl
def ask21 (P : Program) (f : FuncId) (fn : Func) (s : ChangeSpec) (c : OpenClaim) : Bool := (c.loopsOut == fn.resultTypes.toList.any (P.loopsFrom ·))
theorem fact21 : ask21 Tryz.pinned.checked.prog 3 Tryz.f3 (OpenSpec.ofChange Rows.scriptNamesSpec).bare Rows.scriptNamesRow = true := by kernel_rfl
def ask22 (P : Program) (f : FuncId) (fn : Func) (s : ChangeSpec) (c : OpenClaim) : Bool := (c.plainKeys == P.plainKeys)
theorem fact22 : ask22 Tryz.pinned.checked.prog 3 Tryz.f3 (OpenSpec.ofChange Rows.scriptNamesSpec).bare Rows.scriptNamesRow = true := by kernel_rfl
def ask23 (P : Program) (f : FuncId) (fn : Func) (s : ChangeSpec) (c : OpenClaim) : Bool := c.shortTexts.isNone
theorem fact23 : ask23 Tryz.pinned.checked.prog 3 Tryz.f3 (OpenSpec.ofChange Rows.scriptNamesSpec).bare Rows.scriptNamesRow = true := by kernel_rfl
def ask24 (P : Program) (f : FuncId) (fn : Func) (s : ChangeSpec) (c : OpenClaim) : Bool := P.stopsHeard
theorem fact24 : ask24 Tryz.pinned.checked.prog 3 Tryz.f3 (OpenSpec.ofChange Rows.scriptNamesSpec).bare Rows.scriptNamesRow = true := by kernel_rfl
def ask25 (P : Program) (f : FuncId) (fn : Func) (s : ChangeSpec) (c : OpenClaim) : Bool := P.mayEnter
theorem fact25 : ask25 Tryz.pinned.checked.prog 3 Tryz.f3 (OpenSpec.ofChange Rows.scriptNamesSpec).bare Rows.scriptNamesRow = true := by kernel_rfl
def ask26 (P : Program) (f : FuncId) (fn : Func) (s : ChangeSpec) (c : OpenClaim) : Bool := (c.lifted == P.liftsFinal)
theorem fact26 : ask26 Tryz.pinned.checked.prog 3 Tryz.f3 (OpenSpec.ofChange Rows.scriptNamesSpec).bare Rows.scriptNamesRow = true := by kernel_rfl
def ask27 (P : Program) (f : FuncId) (fn : Func) (s : ChangeSpec) (c : OpenClaim) : Bool := (P.make == some c.make)
theorem fact27 : ask27 Tryz.pinned.checked.prog 3 Tryz.f3 (OpenSpec.ofChange Rows.scriptNamesSpec).bare Rows.scriptNamesRow = true := by kernel_rfl
def ask28 (P : Program) (f : FuncId) (fn : Func) (s : ChangeSpec) (c : OpenClaim) : Bool := (c.kinds == (if c.domain.isEmpty then [] else fn.params.toList.map fun t => match P.underlying t with | some (.int k) => some k | _ => none))
theorem fact28 : ask28 Tryz.pinned.checked.prog 3 Tryz.f3 (OpenSpec.ofChange Rows.scriptNamesSpec).bare Rows.scriptNamesRow = true := by kernel_rfl
def ask29 (P : Program) (f : FuncId) (fn : Func) (s : ChangeSpec) (c : OpenClaim) : Bool := (c.pinned == c.pinnedBy)
theorem fact29 : ask29 Tryz.pinned.checked.prog 3 Tryz.f3 (OpenSpec.ofChange Rows.scriptNamesSpec).bare Rows.scriptNamesRow = true := by kernel_rfl
def ask30 (P : Program) (f : FuncId) (fn : Func) (s : ChangeSpec) (c : OpenClaim) : Bool := (c.veiled == (fn.params.toList ++ s.plain.varTypes P ++ fn.resultTypes.toList).any (P.veiledRec ·))
theorem fact30 : ask30 Tryz.pinned.checked.prog 3 Tryz.f3 (OpenSpec.ofChange Rows.scriptNamesSpec).bare Rows.scriptNamesRow = true := by kernel_rfl
def ask31 (P : Program) (f : FuncId) (fn : Func) (s : ChangeSpec) (c : OpenClaim) : Bool := c.veiledFits P fn.params.toList (fn.params.toList ++ s.plain.varTypes P ++ fn.resultTypes.toList)
theorem fact31 : ask31 Tryz.pinned.checked.prog 3 Tryz.f3 (OpenSpec.ofChange Rows.scriptNamesSpec).bare Rows.scriptNamesRow = true := by kernel_rfl
set_option maxRecDepth 100000 in
theorem facts : joinedFacts Tryz.pinned.checked.prog 3 Tryz.f3 (OpenSpec.ofChange Rows.scriptNamesSpec).bare Rows.scriptNamesRow = true := by
  unfold joinedFacts
  simp only [Bool.and_eq_true]
  exact ⟨⟨⟨⟨⟨⟨⟨⟨⟨⟨⟨⟨⟨⟨⟨⟨⟨⟨⟨⟨⟨⟨⟨⟨⟨⟨⟨⟨⟨⟨⟨fact0, fact1⟩, fact2⟩, fact3⟩, fact4⟩, fact5⟩, fact6⟩, fact7⟩, fact8⟩, fact9⟩, fact10⟩, fact11⟩, fact12⟩, fact13⟩, fact14⟩, fact15⟩, fact16⟩, fact17⟩, fact18⟩, fact19⟩, fact20⟩, fact21⟩, fact22⟩, fact23⟩, fact24⟩, fact25⟩, fact26⟩, fact27⟩, fact28⟩, fact29⟩, fact30⟩, fact31⟩
theorem inst : Tryz.f3.isInstance Tryz.pinned.checked.prog Rows.scriptNamesRow.origin Rows.scriptNamesRow.targs := of_decide_eq_true (by kernel_rfl)
theorem wrap : Tryz.f3.isWrapper Tryz.pinned.checked.prog Rows.scriptNamesRow.wrapper Rows.scriptNamesRow.mainSum := by unfold Func.isWrapper; first | (rw [if_pos (by decide +kernel)]; kernel_rfl) | (rw [if_neg (by decide +kernel)]; exact ⟨rfl, rfl⟩)
end Go.Proofs.YtmmkeaokhbmgoaaGreatDoor.ScriptNames
