/- Facts of the translation. -/
import Derived.Test.YtdfbohaohjaloaaGreatDoorRows
import Derived.WalkKit
import Derived.Below
import Derived.ProofKit
import Derived.OpenShut
import Derived.ShutString
import Derived.Laws.Cover2
import Derived.LaidMore
import Derived.Lay
import Derived.SevenTiedAt
import Derived.Test.YtdfbohaohjaloaaGreatDoorCards
import Derived.Test.YtdfbohaohjaloaaGreatDoorTie
namespace Go.Proofs.YtdfbohaohjaloaaGreatDoor.scriptPrints
open Go.ChangeShapes Go.WideShapes Go.ChangeAt Go.RowKit
open Go.ChangeMaps (open_string shut_string)
set_option linter.unusedVariables false
theorem c11 : ((Rows.scriptPrintsRow.recurses == Tryz.prog.recurses 6)) = true := by kernel_rfl
theorem c12 : ((Rows.scriptPrintsRow.named == Tryz.prog.varsNamed 6)) = true := by kernel_rfl
theorem c13 : ((Rows.scriptPrintsRow.maps == (Tryz.f6.params.toList ++ Rows.scriptPrintsSpec.plain.varTypes Tryz.prog).any (Tryz.prog.mapsRec ·))) = true := by kernel_rfl
theorem c14 : ((Rows.scriptPrintsRow.ifaces == (Tryz.f6.params.toList ++ Rows.scriptPrintsSpec.plain.varTypes Tryz.prog).any (Tryz.prog.ifacesRec ·))) = true := by kernel_rfl
theorem c15 : ((Rows.scriptPrintsRow.mapsOut == Tryz.prog.mapsAmong Tryz.f6.resultTypes.toList)) = true := by kernel_rfl
theorem c16 : ((Rows.scriptPrintsRow.loops == (Tryz.f6.params.toList ++ Rows.scriptPrintsSpec.plain.varTypes Tryz.prog).any (Tryz.prog.loopsFrom ·))) = true := by kernel_rfl
theorem c17 : ((Rows.scriptPrintsRow.wideKeys == (Tryz.f6.params.toList ++ Rows.scriptPrintsSpec.plain.varTypes Tryz.prog ++ Tryz.f6.resultTypes.toList).any (Tryz.prog.wideKeysFrom ·))) = true := by kernel_rfl
theorem c18 : (Rows.scriptPrintsSpec.vars.all (Tryz.prog.varReadable ·)) = true := by kernel_rfl
theorem c19 : (Tryz.f6.resultTypes.all (fun t => Tryz.prog.readableRec t && decide (t < Tryz.prog.types.size))) = true := by kernel_rfl
theorem c20 : ((Rows.scriptPrintsRow.ifacesOut == Tryz.f6.resultTypes.toList.any (Tryz.prog.ifacesRec ·))) = true := by kernel_rfl
theorem c21 : ((Rows.scriptPrintsRow.loopsOut == Tryz.f6.resultTypes.toList.any (Tryz.prog.loopsFrom ·))) = true := by kernel_rfl
theorem c22 : ((Rows.scriptPrintsRow.plainKeys == Tryz.prog.plainKeys)) = true := by kernel_rfl
end Go.Proofs.YtdfbohaohjaloaaGreatDoor.scriptPrints
