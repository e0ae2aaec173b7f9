/- Facts of the translation. -/
import Derived.Test.YtdfbohaohjaloaaGreatDoorRows
import Derived.WalkKit
import Derived.Below
import Derived.ProofKit
import Derived.OpenShut
import Derived.ShutString
import Derived.Laws.Cover2
import Derived.LaidMore
import Derived.Lay
import Derived.SevenTiedAt
import Derived.Test.YtdfbohaohjaloaaGreatDoorCards
import Derived.Test.YtdfbohaohjaloaaGreatDoorTie
namespace Go.Proofs.YtdfbohaohjaloaaGreatDoor.scriptPrints
open Go.ChangeShapes Go.WideShapes Go.ChangeAt Go.RowKit
open Go.ChangeMaps (open_string shut_string)
set_option linter.unusedVariables false
theorem own : ownKnob Tryz.prog.godebug = none := by kernel_rfl
theorem laid : laidOutB Tryz.prog = true := by kernel_rfl
theorem mapped : mapsRowed Tryz.prog = true := by kernel_rfl
theorem full : ((List.range Tryz.prog.types.size).all fun t => match Tryz.prog.underlying t with | some (.slice e) => decide (0 < Tryz.prog.cellsOf e) | _ => true) = true := by kernel_rfl
theorem known : (Tryz.f6.params.toList.all fun t => decide (t < Tryz.prog.types.size)) = true := by kernel_rfl

theorem c0 : (Rows.scriptPrintsRow.wf (OpenSpec.ofChange Rows.scriptPrintsSpec)) = true := by kernel_rfl
theorem c3 : (Tryz.f6.params.all (Tryz.prog.readableRec ·)) = true := by kernel_rfl
theorem c4 : (namedTie Tryz.prog Rows.scriptPrintsRow.named Rows.scriptPrintsSpec.vars) = true := by kernel_rfl
theorem c5 : ((Rows.scriptPrintsRow.stops == [])) = true := by kernel_rfl
theorem c6 : ((Tryz.prog.stops == [])) = true := by kernel_rfl
theorem c7 : ((Rows.scriptPrintsRow.knobs == [])) = true := by kernel_rfl
theorem c8 : ((Tryz.prog.stopKnobs == [])) = true := by kernel_rfl
theorem c9 : ((Rows.scriptPrintsRow.inPlace == Tryz.prog.inPlace 6)) = true := by kernel_rfl
theorem c10 : ((Rows.scriptPrintsRow.unfollowed == Tryz.prog.unfollowed 6)) = true := by kernel_rfl
end Go.Proofs.YtdfbohaohjaloaaGreatDoor.scriptPrints
