/- The laws' own examples of layer 2: awake. -/
import Derived.Test.YtflkkgejcpaepaaPackPart
import Derived.Test.YtflkkgejcpaepaaPackWorth
namespace Go.Proofs.Ytflkkgejcpaepaa
open Go.RowKit Punnet.Flt
set_option linter.unusedVariables false

set_option maxHeartbeats 400000 in
theorem awake_any (w : World) : Calls Try.prog 7 #[] w fun e w' => e = .returned (.bool true) ∧ Below w.heap.size w w' := by
  have k3 : IsAt 4613937818241073152 3 4503599627370496 := isAt_const 3 _ (by decide +kernel) (by decide) (by decide) (by decide)
  have k2 : IsAt 4611686018427387904 2 4503599627370496 := isAt_const 2 _ (by decide +kernel) (by decide) (by decide) (by decide)
  have k11 : IsAt 4622382067542392832 11 4503599627370496 := isAt_const 11 _ (by decide +kernel) (by decide) (by decide) (by decide)
  have km : IsAt 13830554455654793216 (-1) 4503599627370496 := isAt_const (-1) _ (by decide +kernel) (by decide) (by decide) (by decide)
  have J := Lib.hid (join_yes k3 k2 (f := 12) (by decide))
  rw [show joinOf 3 2 12 = (27, 0) by decide] at J
  have P1 := Lib.hid (part_yes (n := 27) (f := 12) (by decide) (by decide))
  have P2 := Lib.hid (part_yes (n := -1) (f := 12) (by decide) (by decide))
  rw [show floatOfInt .f64 ((27 : Int) % 12) = 4613937818241073152 by decide +kernel, show floatOfInt .f64 ((27 : Int) / 12) = 4611686018427387904 by decide +kernel] at P1
  rw [show floatOfInt .f64 ((-1 : Int) % 12) = 4622382067542392832 by decide +kernel, show floatOfInt .f64 ((-1 : Int) / 12) = 13830554455654793216 by decide +kernel] at P2
  have o1 := k3.same k3
  have o2 := k2.same k2
  have o3 := k11.same k11
  have o4 := km.same km
  clear k3 k2 k11 km
  go_enter Try.func7, Try.ntmps7
  go_wp2_with fail
  refine (J.out _).mono ?_
  rintro e w1 ⟨rfl, hb1⟩
  go_wp2_with fail
  refine (P1.out _).mono ?_
  rintro e w2 ⟨rfl, hb2⟩
  go_wp2_with fail
  refine (P2.out _).mono ?_
  rintro e w3 ⟨rfl, hb3⟩
  go_wp2_with fail
  go_ret
  exact ⟨rfl, by repeat (first | exact Below.refl _ _ | assumption | refine below_two ?_ (by assumption))⟩

/-- Whatever Join tells, the reference tells it too. -/
theorem join_cases (a b : Nat) (f : Int) : ∃ n c : Int, Hid (∀ w, Calls Try.prog 8 #[.complex .f64 a b, .int .i64 f] w fun e w' => e = .returned (.tuple #[.int .i64 n, .int .i64 c]) ∧ Below w.heap.size w w') ∧
    Hid (∀ w, Calls Try.prog 9 #[.complex .f64 a b, .int .i64 f] w fun e w' => e = .returned (.tuple #[.int .i64 n, .int .i64 c]) ∧ w = w') ∧
    ((c = 0 ∧ facB f = true ∧ nearB n = true) ∨ (c ≠ 0 ∧ n = 0)) := by
  cases hf : facB f with
  | false => exact ⟨0, 2, fun w => join_arg a b hf w, fun w => refJoin_arg a b hf w, .inr ⟨by omega, rfl⟩⟩
  | true =>
    rcases both_cases a b 4503599627370496 with ⟨u, p, hu, hp⟩ | h
    · refine ⟨_, _, fun w => join_yes hu hp hf w, fun w => refJoin_yes hu hp hf w, ?_⟩
      unfold joinOf
      by_cases hj : (nearB (p * f) && nearB (u + p * f)) = true
      · rw [if_pos hj]
        rw [Bool.and_eq_true] at hj
        exact .inl ⟨rfl, rfl, hj.2⟩
      · rw [if_neg hj]
        exact .inr ⟨by simp, rfl⟩
    · exact ⟨0, 5, fun w => join_form h hf w, fun w => refJoin_form h hf w, .inr ⟨by omega, rfl⟩⟩

end Go.Proofs.Ytflkkgejcpaepaa
