/- The walk of the law PlaneSums. -/
import Derived.Test.YtcahggdjdmjlhaaPlaneAwake
import Derived.Test.YtcahggdjdmjlhaaPlaneSum
namespace Go.Proofs.Ytcahggdjdmjlhaa
open Go.RowKit Punnet.Flt
set_option linter.unusedVariables false

theorem four_cases (a b c d : Nat) (M : Int) : (∃ n m n' m', IsAt a n M ∧ IsAt b m M ∧ IsAt c n' M ∧ IsAt d m' M) ∨ (okB a M && okB b M && (okB c M && okB d M)) = false := by
  rcases both_cases a b M with ⟨n, m, hn, hm⟩ | h
  · rcases both_cases c d M with ⟨n', m', hn', hm'⟩ | h
    · exact .inl ⟨n, m, n', m', hn, hm, hn', hm'⟩
    · right; rw [h, Bool.and_false]
  · right; rw [h]; rfl

set_option maxHeartbeats 1000000 in
theorem planeSums_walk (a0 : Nat) (a1 : Nat) (a2 : Nat) (a3 : Nat) (w0 : (Lit.float .f64 a0).wf = true) (w1 : (Lit.float .f64 a1).wf = true) (w2 : (Lit.float .f64 a2).wf = true) (w3 : (Lit.float .f64 a3).wf = true) (w : World) :
    Calls Try.prog 6 #[.float .f64 a0, .float .f64 a1, .float .f64 a2, .float .f64 a3] w fun e w' => e = .returned (.bool true) ∧ Below w.heap.size w w' := by
  clear w0 w1 w2 w3
  have z := isAt_zero.same isAt_zero
  have k1 : ∃ (x y : Nat) (c : Int), Hid (∀ w, Calls Try.prog 19 #[.complex .f64 a0 a1, .complex .f64 a2 a3] w fun e w' => e = .returned (.tuple #[.complex .f64 x y, .int .i64 c]) ∧ Below w.heap.size w w') ∧ Hid (∀ w, Calls Try.prog 20 #[.complex .f64 a0 a1, .complex .f64 a2 a3, .int .i64 1] w fun e w' => e = .returned (.tuple #[.complex .f64 x y, .int .i64 c]) ∧ w = w') ∧ FloatKind.f64.format.order x x = some .eq ∧ FloatKind.f64.format.order y y = some .eq := by
    rcases four_cases a0 a1 a2 a3 4503599627370496 with ⟨n, m, n', m', hn, hm, hn', hm'⟩ | h
    · exact ⟨_, _, _, fun w => plus_yes hn hm hn' hm' w, fun w => refSum_yes hn hm hn' hm' w, ofR_same _ _⟩
    · exact ⟨_, _, _, fun w => plus_no h w, fun w => refSum_no h _ w, z, z⟩
  have k2 : ∃ (x y : Nat) (c : Int), Hid (∀ w, Calls Try.prog 21 #[.complex .f64 a0 a1, .complex .f64 a2 a3] w fun e w' => e = .returned (.tuple #[.complex .f64 x y, .int .i64 c]) ∧ Below w.heap.size w w') ∧ Hid (∀ w, Calls Try.prog 20 #[.complex .f64 a0 a1, .complex .f64 a2 a3, .int .i64 (-1)] w fun e w' => e = .returned (.tuple #[.complex .f64 x y, .int .i64 c]) ∧ w = w') ∧ FloatKind.f64.format.order x x = some .eq ∧ FloatKind.f64.format.order y y = some .eq := by
    rcases four_cases a0 a1 a2 a3 4503599627370496 with ⟨n, m, n', m', hn, hm, hn', hm'⟩ | h
    · exact ⟨_, _, _, fun w => minus_yes hn hm hn' hm' w, fun w => refSumMinus_yes hn hm hn' hm' w, ofR_same _ _⟩
    · exact ⟨_, _, _, fun w => minus_no h w, fun w => refSum_no h _ w, z, z⟩
  have k3 : ∃ (x y : Nat) (c : Int), Hid (∀ w, Calls Try.prog 17 #[.complex .f64 a0 a1, .complex .f64 a2 a3] w fun e w' => e = .returned (.tuple #[.complex .f64 x y, .int .i64 c]) ∧ Below w.heap.size w w') ∧ Hid (∀ w, Calls Try.prog 22 #[.complex .f64 a0 a1, .complex .f64 a2 a3] w fun e w' => e = .returned (.tuple #[.complex .f64 x y, .int .i64 c]) ∧ w = w') ∧ FloatKind.f64.format.order x x = some .eq ∧ FloatKind.f64.format.order y y = some .eq := by
    rcases four_cases a0 a1 a2 a3 33554432 with ⟨n, m, n', m', hn, hm, hn', hm'⟩ | h
    · have b1 := mul_small hn.2.1 hn.2.2 hn'.2.1 hn'.2.2
      have b2 := mul_small hm.2.1 hm.2.2 hm'.2.1 hm'.2.2
      have b3 := mul_small hn.2.1 hn.2.2 hm'.2.1 hm'.2.2
      have b4 := mul_small hm.2.1 hm.2.2 hn'.2.1 hn'.2.2
      have f1 := isAt_fl (n * n' - m * m') (M := 4503599627370496) (by omega) (by omega) (by omega)
      have f2 := isAt_fl (n * m' + m * n') (M := 4503599627370496) (by omega) (by omega) (by omega)
      exact ⟨_, _, _, fun w => times_yes hn hm hn' hm' w, fun w => refProduct_yes hn hm hn' hm' w, f1.same f1, f2.same f2⟩
    · exact ⟨_, _, _, fun w => times_no h w, fun w => refProduct_no h w, z, z⟩
  obtain ⟨x1, y1, c1, P1, R1, o1, o2⟩ := k1
  obtain ⟨x2, y2, c2, P2, R2, o3, o4⟩ := k2
  obtain ⟨x3, y3, c3, P3, R3, o5, o6⟩ := k3
  clear z
  go_enter Try.func6, Try.ntmps6
  go_wp2_with fail
  refine (awake_any _).mono ?_
  rintro e w1 ⟨rfl, hb1⟩
  go_wp2_with fail
  refine (P1.out _).mono ?_
  rintro e w2 ⟨rfl, hb2⟩
  go_wp2_with fail
  refine (R1.out _).mono ?_
  rintro e w3 ⟨rfl, rfl⟩
  go_wp2_with fail
  refine (P2.out _).mono ?_
  rintro e w4 ⟨rfl, hb4⟩
  go_wp2_with fail
  refine (R2.out _).mono ?_
  rintro e w5 ⟨rfl, rfl⟩
  go_wp2_with fail
  refine (P3.out _).mono ?_
  rintro e w6 ⟨rfl, hb6⟩
  go_wp2_with fail
  refine (R3.out _).mono ?_
  rintro e w7 ⟨rfl, rfl⟩
  go_wp2_with fail
  go_ret
  exact ⟨rfl, by repeat (first | exact Below.refl _ _ | assumption | refine below_two ?_ (by assumption))⟩
end Go.Proofs.Ytcahggdjdmjlhaa
