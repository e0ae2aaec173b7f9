/- The walk of the law NumReads. -/
import Derived.Test.YthnpfpgedlmpoaaNumAwake
import Derived.Test.YthnpfpgedlmpoaaNumRefRead
namespace Go.Proofs.Ythnpfpgedlmpoaa
open Go.RowKit Punnet.Num

set_option maxHeartbeats 400000 in
theorem numReads_walk (a0 : ByteArray) (a1 : Int) (w0 : a0.size ≤ maxLen) (_w1 : (Lit.int .i64 a1).wf = true) (w : World) :
    Calls Try.prog 5 #[.string a0, .int .i64 a1] w fun e w' => e = .returned (.bool true) ∧ Below w.heap.size w w' := by
  have hm : a0.size ≤ 9223372036854775807 := by unfold maxLen at w0; omega
  by_cases hl : 500 < a0.size
  · have hl' : (500 : Int) < a0.size := by omega
    clear w0
    go_enter Try.func5, Try.ntmps5
    go_wp2_with (go_at_call 6; refine (awake_any _).mono ?_; rintro e w1 ⟨rfl, hb1⟩)
    go_ret
    exact ⟨rfl, hb1⟩
  · have hl' : (a0.size : Int) ≤ 500 := by omega
    have HR := Lib.hid (fun w => read_any a0 w w0)
    have HRR := Lib.hid (fun w => refRead_any a0 w w0)
    have HS := Lib.hid (fun w => scan_any a0 a1 w w0)
    have HSS := Lib.hid (fun w => refScan_any a0 a1 w w0)
    have HP := Lib.hid (read_print (l := a0.data.toList))
    generalize readOf a0.data.toList = R at *
    generalize scanOf a0.data.toList a1 = S at *
    obtain ⟨r1, r2⟩ := R
    obtain ⟨s1, s2, s3⟩ := S
    clear w0
    by_cases h2 : r2 = 0
    · obtain ⟨hp, hr1, hr2⟩ := HP.out h2
      subst h2
      have HB := Lib.hid (show ((printB r1).toList == a0.toList) = true by rw [Lib.toList_data, Lib.toList_data, printB_data, hp]; exact beq_self_eq_true _)
      simp only at hr1 hr2
      clear hp HP
      go_enter Try.func5, Try.ntmps5
      go_wp2_with (first | (go_at_call 6; refine (awake_any _).mono ?_; rintro e w1 ⟨rfl, hb1⟩) | (go_at_call 8; refine (HR.out _).mono ?_; rintro e w2 ⟨rfl, hb2⟩) | (go_at_call 11; refine (HRR.out _).mono ?_; rintro e w9 ⟨rfl, rfl⟩) | (go_at_call 10; refine (HS.out _).mono ?_; rintro e w3 ⟨rfl, hb3⟩) | (go_at_call 12; refine (HSS.out _).mono ?_; rintro e w9 ⟨rfl, rfl⟩) | (go_at_call 7; refine (print_any _ _ (by omega) (by omega)).mono ?_; rintro e w4 ⟨rfl, hb4⟩))
      go_ret
      exact ⟨ret_bool HB.out, by repeat (first | exact Below.refl _ _ | assumption | refine below_two ?_ (by assumption))⟩
    · have b2 : (r2 != 0) = true := by simp [h2]
      clear HP h2
      go_enter Try.func5, Try.ntmps5
      go_wp2_with (first | (go_at_call 6; refine (awake_any _).mono ?_; rintro e w1 ⟨rfl, hb1⟩) | (go_at_call 8; refine (HR.out _).mono ?_; rintro e w2 ⟨rfl, hb2⟩) | (go_at_call 11; refine (HRR.out _).mono ?_; rintro e w9 ⟨rfl, rfl⟩) | (go_at_call 10; refine (HS.out _).mono ?_; rintro e w3 ⟨rfl, hb3⟩) | (go_at_call 12; refine (HSS.out _).mono ?_; rintro e w9 ⟨rfl, rfl⟩))
      go_ret
      exact ⟨rfl, by repeat (first | exact Below.refl _ _ | assumption | refine below_two ?_ (by assumption))⟩
end Go.Proofs.Ythnpfpgedlmpoaa
