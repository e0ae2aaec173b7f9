/- The walk of the law PlaneParts. -/
import Derived.Test.YtcahggdjdmjlhaaPlaneAwake
namespace Go.Proofs.Ytcahggdjdmjlhaa
open Go.RowKit Punnet.Flt
set_option linter.unusedVariables false

set_option maxHeartbeats 1000000 in
theorem planeParts_walk (a0 : Nat) (a1 : Nat) (a2 : Int) (a3 : Int) (w0 : (Lit.float .f64 a0).wf = true) (w1 : (Lit.float .f64 a1).wf = true) (w2 : (Lit.int .i64 a2).wf = true) (w3 : (Lit.int .i64 a3).wf = true) (w : World) :
    Calls Try.prog 3 #[.float .f64 a0, .float .f64 a1, .int .i64 a2, .int .i64 a3] w fun e w' => e = .returned (.bool true) ∧ Below w.heap.size w w' := by
  clear w0 w1 w2 w3
  have W := Lib.hid (whole_any a0 a1)
  have S := Lib.hid (small_any a0 a1)
  have key : ∃ (n m : Int) (ok sm : Bool) (c : Int), Hid (∀ w, Calls Try.prog 9 #[.complex .f64 a0 a1, .int .i64 4503599627370496] w fun e w' => e = .returned (.tuple #[.int .i64 n, .int .i64 m, .bool ok]) ∧ w = w') ∧
      Hid (∃ x y : Int, ∀ w, Calls Try.prog 9 #[.complex .f64 a0 a1, .int .i64 33554432] w fun e w' => e = .returned (.tuple #[.int .i64 x, .int .i64 y, .bool sm]) ∧ w = w') ∧
      Hid (∀ w, Calls Try.prog 10 #[.complex .f64 a0 a1] w fun e w' => e = .returned (.tuple #[.int .i64 n, .int .i64 m, .int .i64 c]) ∧ Below w.heap.size w w') ∧
      (okB a0 4503599627370496 && okB a1 4503599627370496) = ok ∧ (okB a0 33554432 && okB a1 33554432) = sm ∧ ((ok = true ∧ c = 0) ∨ (ok = false ∧ c = 5)) := by
    have hsm : ∃ sm : Bool, Hid (∃ x y : Int, ∀ w, Calls Try.prog 9 #[.complex .f64 a0 a1, .int .i64 33554432] w fun e w' => e = .returned (.tuple #[.int .i64 x, .int .i64 y, .bool sm]) ∧ w = w') ∧ (okB a0 33554432 && okB a1 33554432) = sm := by
      rcases both_cases a0 a1 33554432 with ⟨n, m, hn, hm⟩ | h
      · exact ⟨true, ⟨n, m, fun w => refParts_yes hn hm (by omega) (by omega) w⟩, both_ok hn hm⟩
      · exact ⟨false, ⟨0, 0, fun w => refParts_no h (by omega) (by omega) w⟩, h⟩
    obtain ⟨sm, h1, h2⟩ := hsm
    rcases both_cases a0 a1 4503599627370496 with ⟨n, m, hn, hm⟩ | h
    · exact ⟨n, m, true, sm, 0, fun w => refParts_yes hn hm (by omega) (by omega) w, h1, fun w => parts_yes hn hm w, both_ok hn hm, h2, .inl ⟨rfl, rfl⟩⟩
    · exact ⟨0, 0, false, sm, 5, fun w => refParts_no h (by omega) (by omega) w, h1, fun w => parts_no h w, h, h2, .inr ⟨rfl, rfl⟩⟩
  obtain ⟨n, m, ok, sm, c, R1, R2, P, e1, e2, hc⟩ := key
  obtain ⟨x, y, R2⟩ := R2.out
  have R2 := Lib.hid R2
  rw [e1] at W
  rw [e2] at S
  clear e1 e2
  by_cases hf : -4503599627370496 ≤ a2 ∧ a2 ≤ 4503599627370496 ∧ -4503599627370496 ≤ a3 ∧ a3 ≤ 4503599627370496
  · obtain ⟨f1, f2, f3, f4⟩ := hf
    have O := Lib.hid (of_yes f1 f2 f3 f4)
    have F := Lib.hid (refFits_yes f1 f2 f3 f4)
    have Q := Lib.hid (parts_yes (isAt_fl a2 f1 f2 (by omega)) (isAt_fl a3 f3 f4 (by omega)))
    generalize floatOfInt .f64 a2 = u at *
    generalize floatOfInt .f64 a3 = v at *
    clear f1 f2 f3 f4
    rcases hc with ⟨rfl, rfl⟩ | ⟨rfl, rfl⟩
    all_goals
      go_enter Try.func3, Try.ntmps3
      go_wp2_with fail
      refine (awake_any _).mono ?_
      rintro e w1 ⟨rfl, hb1⟩
      go_wp2_with fail
      refine (R1.out _).mono ?_
      rintro e w2 ⟨rfl, rfl⟩
      go_wp2_with fail
      refine (R2.out _).mono ?_
      rintro e w3 ⟨rfl, rfl⟩
      go_wp2_with fail
      refine (P.out _).mono ?_
      rintro e w4 ⟨rfl, hb4⟩
      go_wp2_with fail
      refine (W.out _).mono ?_
      rintro e w5 ⟨rfl, hb5⟩
      go_wp2_with fail
      refine (S.out _).mono ?_
      rintro e w6 ⟨rfl, hb6⟩
      go_wp2_with fail
      refine (O.out _).mono ?_
      rintro e w7 ⟨rfl, rfl⟩
      go_wp2_with fail
      refine (F.out _).mono ?_
      rintro e w8 ⟨rfl, rfl⟩
      go_wp2_with fail
      refine (Q.out _).mono ?_
      rintro e w9 ⟨rfl, hb9⟩
      go_wp2_with fail
      go_ret
      exact ⟨rfl, by repeat (first | exact Below.refl _ _ | assumption | refine below_two ?_ (by assumption))⟩
  · have O := Lib.hid (of_no hf)
    have F := Lib.hid (refFits_no hf)
    have o := isAt_zero.same isAt_zero
    clear hf
    rcases hc with ⟨rfl, rfl⟩ | ⟨rfl, rfl⟩
    all_goals
      go_enter Try.func3, Try.ntmps3
      go_wp2_with fail
      refine (awake_any _).mono ?_
      rintro e w1 ⟨rfl, hb1⟩
      go_wp2_with fail
      refine (R1.out _).mono ?_
      rintro e w2 ⟨rfl, rfl⟩
      go_wp2_with fail
      refine (R2.out _).mono ?_
      rintro e w3 ⟨rfl, rfl⟩
      go_wp2_with fail
      refine (P.out _).mono ?_
      rintro e w4 ⟨rfl, hb4⟩
      go_wp2_with fail
      refine (W.out _).mono ?_
      rintro e w5 ⟨rfl, hb5⟩
      go_wp2_with fail
      refine (S.out _).mono ?_
      rintro e w6 ⟨rfl, hb6⟩
      go_wp2_with fail
      refine (O.out _).mono ?_
      rintro e w7 ⟨rfl, rfl⟩
      go_wp2_with fail
      refine (F.out _).mono ?_
      rintro e w8 ⟨rfl, rfl⟩
      go_wp2_with fail
      go_ret
      exact ⟨rfl, by repeat (first | exact Below.refl _ _ | assumption | refine below_two ?_ (by assumption))⟩
end Go.Proofs.Ytcahggdjdmjlhaa
