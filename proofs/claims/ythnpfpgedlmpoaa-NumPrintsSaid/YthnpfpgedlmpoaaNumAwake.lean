/- The laws' own example: awake. -/
import Derived.Test.YthnpfpgedlmpoaaNumPrint
import Derived.Test.YthnpfpgedlmpoaaNumScan
import Derived.Test.YthnpfpgedlmpoaaNumLaw
namespace Go.Proofs.Ythnpfpgedlmpoaa
open Go.RowKit Punnet.Num

set_option maxHeartbeats 400000 in
theorem awake_any (w : World) : Calls Try.prog 6 #[] w fun e w' => e = .returned (.bool true) ∧ Below w.heap.size w w' := by
  have HS := Lib.hid (scan_any ⟨#[97, 45, 49, 50, 98]⟩ 1 w (by decide))
  rw [show scanOf (ByteArray.data ⟨#[97, 45, 49, 50, 98]⟩).toList 1 = (-12, 4, 0) by decide] at HS
  go_enter Try.func6, Try.ntmps6
  go_wp2_with (go_at_call 10; refine HS.out.mono ?_; rintro e w1 ⟨rfl, hb1⟩)
  go_ret
  exact ⟨rfl, hb1⟩

theorem i64_of_wf {n : Int} (h : (Lit.int .i64 n).wf = true) : -9223372036854775808 ≤ n ∧ n ≤ 9223372036854775807 := by
  simpa [Lit.wf, IntKind.min, IntKind.max, IntKind.signed, IntKind.bits] using h

end Go.Proofs.Ythnpfpgedlmpoaa
