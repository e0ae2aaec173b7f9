/- The walk of the law PackJoins. -/
import Derived.Test.YtflkkgejcpaepaaPackAwake
namespace Go.Proofs.Ytflkkgejcpaepaa
open Go.RowKit Punnet.Flt
set_option linter.unusedVariables false

set_option maxHeartbeats 1000000 in
theorem packJoins_walk (a0 : Nat) (a1 : Nat) (a2 : Int) (w0 : (Lit.float .f64 a0).wf = true) (w1 : (Lit.float .f64 a1).wf = true) (w2 : (Lit.int .i64 a2).wf = true) (w : World) :
    Calls Try.prog 3 #[.float .f64 a0, .float .f64 a1, .int .i64 a2] w fun e w' => e = .returned (.bool true) ∧ Below w.heap.size w w' := by
  clear w0 w1 w2
  obtain ⟨n, c, J, R, hc⟩ := join_cases a0 a1 a2
  have F1 := Lib.hid (factor_any a2)
  have F2 := Lib.hid (refFactor_any a2)
  rcases hc with ⟨rfl, hf, hn⟩ | ⟨hc, rfl⟩
  · have O := Lib.hid (order_yes J.out hf hn)
    have P := Lib.hid (refPart_yes hf hn)
    obtain ⟨f1, f2⟩ := facB_true hf
    obtain ⟨n1, n2⟩ := nearB_true.1 hn
    obtain ⟨b1, b2, b3, b4⟩ := part_bound f1 f2 n1 n2
    have i1 := isAt_fl (n % a2) (M := 4503599627370496) (by omega) (by omega) (by omega)
    have i2 := isAt_fl (n / a2) (M := 4503599627370496) b3 b4 (by omega)
    have o1 := i1.same i1
    have o2 := i2.same i2
    have Q := Lib.hid (refOf_any (n % a2) (n / a2))
    generalize floatOfInt .f64 (n % a2) = x at *
    generalize floatOfInt .f64 (n / a2) = y at *
    generalize n % a2 = u at *
    generalize n / a2 = v at *
    rw [hf] at F1 F2
    clear hf hn i1 i2
    go_enter Try.func3, Try.ntmps3
    go_wp2_with fail
    refine (awake_any _).mono ?_
    rintro e w1 ⟨rfl, hb1⟩
    go_wp2_with fail
    refine (J.out _).mono ?_
    rintro e w2 ⟨rfl, hb2⟩
    go_wp2_with fail
    refine (R.out _).mono ?_
    rintro e w3 ⟨rfl, rfl⟩
    go_wp2_with fail
    refine (O.out _).mono ?_
    rintro e w4 ⟨rfl, hb4⟩
    go_wp2_with fail
    refine (F1.out _).mono ?_
    rintro e w5 ⟨rfl, rfl⟩
    go_wp2_with fail
    refine (F2.out _).mono ?_
    rintro e w6 ⟨rfl, rfl⟩
    go_wp2_with fail
    refine (P.out _).mono ?_
    rintro e w7 ⟨rfl, rfl⟩
    go_wp2_with fail
    refine (Q.out _).mono ?_
    rintro e w8 ⟨rfl, rfl⟩
    go_wp2_with fail
    go_ret
    exact ⟨rfl, by repeat (first | exact Below.refl _ _ | assumption | refine below_two ?_ (by assumption))⟩
  · have O := Lib.hid (order_no J.out hc)
    have o := isAt_zero.same isAt_zero
    have hc' : (c != 0) = true := by simp [hc]
    clear hc
    generalize facB a2 = fb at *
    go_enter Try.func3, Try.ntmps3
    go_wp2_with fail
    refine (awake_any _).mono ?_
    rintro e w1 ⟨rfl, hb1⟩
    go_wp2_with fail
    refine (J.out _).mono ?_
    rintro e w2 ⟨rfl, hb2⟩
    go_wp2_with fail
    refine (R.out _).mono ?_
    rintro e w3 ⟨rfl, rfl⟩
    go_wp2_with fail
    refine (O.out _).mono ?_
    rintro e w4 ⟨rfl, hb4⟩
    go_wp2_with fail
    refine (F1.out _).mono ?_
    rintro e w5 ⟨rfl, rfl⟩
    go_wp2_with fail
    refine (F2.out _).mono ?_
    rintro e w6 ⟨rfl, rfl⟩
    go_wp2_with fail
    go_ret
    exact ⟨rfl, by repeat (first | exact Below.refl _ _ | assumption | refine below_two ?_ (by assumption))⟩
end Go.Proofs.Ytflkkgejcpaepaa
