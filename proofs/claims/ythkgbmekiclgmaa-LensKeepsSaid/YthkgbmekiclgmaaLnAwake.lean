/- The chapter's example of the lens layer holds. -/
import Derived.Test.YthkgbmekiclgmaaVmF
import Derived.Test.YthkgbmekiclgmaaRows
namespace Go.Vm
open Go.RowKit Go.Proofs
set_option linter.unusedVariables false
set_option linter.unusedSimpArgs false
set_option maxRecDepth 10000

theorem awake_run : xcall Try.prog 200 11 [] = some [.d (.sc (.bool true))] := by kernel_rfl
theorem awake_any : Contract Try.prog 11 [] [.d (.sc (.bool true))] := xcall_sound _ _ _ _ awake_run

end Go.Vm
