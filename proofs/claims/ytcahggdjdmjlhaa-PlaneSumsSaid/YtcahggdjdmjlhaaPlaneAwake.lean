/- The laws' own examples of layer 1: awake. -/
import Derived.Test.YtcahggdjdmjlhaaPlaneTimes
namespace Go.Proofs.Ytcahggdjdmjlhaa
open Go.RowKit Punnet.Flt
set_option linter.unusedVariables false

set_option maxHeartbeats 400000 in
theorem awake_any (w : World) : Calls Try.prog 8 #[] w fun e w' => e = .returned (.bool true) ∧ Below w.heap.size w w' := by
  have k1 : IsAt 4607182418800017408 1 33554432 := isAt_const 1 _ (by decide +kernel) (by decide) (by decide) (by decide)
  have k2 : IsAt 4611686018427387904 2 33554432 := isAt_const 2 _ (by decide +kernel) (by decide) (by decide) (by decide)
  have k3 : IsAt 4613937818241073152 3 33554432 := isAt_const 3 _ (by decide +kernel) (by decide) (by decide) (by decide)
  have km : IsAt 13830554455654793216 (-1) 33554432 := isAt_const (-1) _ (by decide +kernel) (by decide) (by decide) (by decide)
  have k4 : IsAt 4616189618054758400 4 33554432 := isAt_const 4 _ (by decide +kernel) (by decide) (by decide) (by decide)
  have k5 : IsAt 4617315517961601024 5 33554432 := isAt_const 5 _ (by decide +kernel) (by decide) (by decide) (by decide)
  have T := Lib.hid (times_yes k1 k2 k3 km)
  rw [show floatOfInt .f64 (1 * 3 - 2 * -1) = 4617315517961601024 by decide +kernel, show floatOfInt .f64 (1 * -1 + 2 * 3) = 4617315517961601024 by decide +kernel] at T
  have N := Lib.hid (norm_yes k3 k4)
  have o := k5.same k5
  clear k1 k2 k3 km k4 k5
  go_enter Try.func8, Try.ntmps8
  go_wp2_with fail
  refine (T.out _).mono ?_
  rintro e w1 ⟨rfl, hb1⟩
  go_wp2_with fail
  refine (N.out _).mono ?_
  rintro e w2 ⟨rfl, hb2⟩
  go_wp2_with fail
  go_ret
  exact ⟨rfl, below_two hb1 hb2⟩
end Go.Proofs.Ytcahggdjdmjlhaa
