/- Facts of the translation. -/
import Derived.Test.YtdfbohaohjaloaaGreatDoorRows
import Derived.WalkKit
import Derived.Below
import Derived.ProofKit
import Derived.OpenShut
import Derived.ShutString
import Derived.Laws.Cover2
import Derived.LaidMore
import Derived.Lay
import Derived.SevenTiedAt
import Derived.Test.YtdfbohaohjaloaaGreatDoorCards
import Derived.Test.YtdfbohaohjaloaaGreatDoorTie
namespace Go.Proofs.YtdfbohaohjaloaaGreatDoor.scriptPrints
open Go.ChangeShapes Go.WideShapes Go.ChangeAt Go.RowKit
open Go.ChangeMaps (open_string shut_string)
set_option linter.unusedVariables false
theorem c23 : (Rows.scriptPrintsRow.shortTexts.isNone) = true := by kernel_rfl
theorem c24 : (Tryz.prog.stopsHeard) = true := by kernel_rfl
theorem c25 : (Tryz.prog.mayEnter) = true := by kernel_rfl
theorem c26 : ((Rows.scriptPrintsRow.lifted == Tryz.prog.liftsFinal)) = true := by kernel_rfl
theorem c27 : ((Tryz.prog.make == some Rows.scriptPrintsRow.make)) = true := by kernel_rfl
theorem c28 : ((Rows.scriptPrintsRow.kinds == (if Rows.scriptPrintsRow.domain.isEmpty then [] else Tryz.f6.params.toList.map fun t => match Tryz.prog.underlying t with | some (.int k) => some k | _ => none))) = true := by kernel_rfl
theorem c29 : ((Rows.scriptPrintsRow.pinned == Rows.scriptPrintsRow.pinnedBy)) = true := by kernel_rfl
theorem c30 : ((Rows.scriptPrintsRow.veiled == (Tryz.f6.params.toList ++ Rows.scriptPrintsSpec.plain.varTypes Tryz.prog ++ Tryz.f6.resultTypes.toList).any (Tryz.prog.veiledRec ·))) = true := by kernel_rfl
theorem c31 : (Rows.scriptPrintsRow.veiledFits Tryz.prog Tryz.f6.params.toList (Tryz.f6.params.toList ++ Rows.scriptPrintsSpec.plain.varTypes Tryz.prog ++ Tryz.f6.resultTypes.toList)) = true := by kernel_rfl
theorem qwf : Rows.scriptPrintsRow.wfByText (OpenSpec.ofChange Rows.scriptPrintsSpec) = true := by kernel_rfl
theorem qmain : Tryz.pinned.checked.prog.mainIs = some ((true, "a5e0bc949c5d0c838ce1e23d19f10df83379c060680ac6c6e9379ae861816d85").1, ((true, "a5e0bc949c5d0c838ce1e23d19f10df83379c060680ac6c6e9379ae861816d85") : Bool × String).2.toList) := by kernel_rfl
theorem qlooks : false = Tryz.prog.looks [] := by kernel_rfl
theorem qgo : Tryz.prog.funcs.any Func.goes = false := by kernel_rfl
theorem qfn : Tryz.prog.funcNamed "punnet/punnetlaw34.ScriptPrints" = some 6 := by kernel_rfl
theorem qins : ([47].all fun u => !Tryz.prog.wantsStandIn u) = true := by kernel_rfl

end Go.Proofs.YtdfbohaohjaloaaGreatDoor.scriptPrints
