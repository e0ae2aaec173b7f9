/- The walk of the law PackParts. -/
import Derived.Test.YtflkkgejcpaepaaPackAwake
namespace Go.Proofs.Ytflkkgejcpaepaa
open Go.RowKit Punnet.Flt
set_option linter.unusedVariables false

theorem emod_le {n : Int} (f : Int) (h : 0 ≤ n) : n % f ≤ n := by
  rw [← Int.tmod_eq_emod_of_nonneg h]
  have := Int.natAbs_tmod n f
  have h2 : n.natAbs % f.natAbs ≤ n.natAbs := Nat.mod_le _ _
  omega

set_option maxHeartbeats 1000000 in
theorem packParts_walk (a0 : Int) (a1 : Int) (w0 : (Lit.int .i64 a0).wf = true) (w1 : (Lit.int .i64 a1).wf = true) (w : World) :
    Calls Try.prog 4 #[.int .i64 a0, .int .i64 a1] w fun e w' => e = .returned (.bool true) ∧ Below w.heap.size w w' := by
  clear w0 w1
  cases hfn : (facB a1 && nearB a0) with
  | false =>
    have P1 := Lib.hid (part_no hfn)
    have P2 := Lib.hid (refPart_no hfn)
    have Q := Lib.hid (refOf_any 0 0)
    rw [show floatOfInt .f64 0 = 0 by decide +kernel] at Q
    have o := isAt_zero.same isAt_zero
    have hc : ((if facB a1 = true then (3 : Int) else 2) != 0) = true := by split <;> rfl
    generalize (if facB a1 = true then (3 : Int) else 2) = c at *
    clear hfn
    go_enter Try.func4, Try.ntmps4
    go_wp2_with fail
    refine (awake_any _).mono ?_
    rintro e w1 ⟨rfl, hb1⟩
    go_wp2_with fail
    refine (P1.out _).mono ?_
    rintro e w2 ⟨rfl, hb2⟩
    go_wp2_with fail
    refine (P2.out _).mono ?_
    rintro e w3 ⟨rfl, rfl⟩
    go_wp2_with fail
    refine (Q.out _).mono ?_
    rintro e w4 ⟨rfl, rfl⟩
    go_wp2_with fail
    go_ret
    exact ⟨rfl, by repeat (first | exact Below.refl _ _ | assumption | refine below_two ?_ (by assumption))⟩
  | true =>
    rw [Bool.and_eq_true] at hfn
    obtain ⟨hf, hn⟩ := hfn
    have P1 := Lib.hid (part_yes hf hn)
    have P2 := Lib.hid (refPart_yes hf hn)
    have Q := Lib.hid (refOf_any (a0 % a1) (a0 / a1))
    obtain ⟨f1, f2⟩ := facB_true hf
    obtain ⟨n1, n2⟩ := nearB_true.1 hn
    obtain ⟨b1, b2, b3, b4⟩ := part_bound f1 f2 n1 n2
    have i1 := isAt_fl (a0 % a1) (M := 4503599627370496) (by omega) (by omega) (by omega)
    have i2 := isAt_fl (a0 / a1) (M := 4503599627370496) b3 b4 (by omega)
    have o1 := i1.same i1
    have o2 := i2.same i2
    have J := join_yes i1 i2 hf
    have hdm := Int.mul_ediv_add_emod a0 a1
    have hmul : a0 / a1 * a1 = a0 - a0 % a1 := by rw [Int.mul_comm]; omega
    have hj : joinOf (a0 % a1) (a0 / a1) a1 = if nearB (a0 - a0 % a1) then (a0, 0) else (0, 3) := by
      unfold joinOf
      rw [hmul, show a0 % a1 + (a0 - a0 % a1) = a0 by omega, hn, Bool.and_true]
    rw [hj] at J
    cases hk : nearB (a0 - a0 % a1) with
    | false =>
      rw [hk] at J
      have J := Lib.hid J
      have hneg : a0 < 0 := by
        rw [nearB_false] at hk
        rcases Int.lt_or_le a0 0 with h | h
        · exact h
        · have := emod_le a1 h; omega
      have N := Lib.hid (near_any (a0 - a0 % a1))
      rw [hk] at N
      clear hk hj hdm i1 i2 hf hn
      generalize floatOfInt .f64 (a0 % a1) = x at *
      generalize floatOfInt .f64 (a0 / a1) = y at *
      generalize a0 % a1 = u at *
      generalize a0 / a1 = v at *
      go_enter Try.func4, Try.ntmps4
      go_wp2_with fail
      refine (awake_any _).mono ?_
      rintro e w1 ⟨rfl, hb1⟩
      go_wp2_with fail
      refine (P1.out _).mono ?_
      rintro e w2 ⟨rfl, hb2⟩
      go_wp2_with fail
      refine (P2.out _).mono ?_
      rintro e w3 ⟨rfl, rfl⟩
      go_wp2_with fail
      refine (Q.out _).mono ?_
      rintro e w4 ⟨rfl, rfl⟩
      go_wp2_with fail
      refine (J.out _).mono ?_
      rintro e w5 ⟨rfl, hb5⟩
      go_wp2_with fail
      refine (N.out _).mono ?_
      rintro e w6 ⟨rfl, rfl⟩
      go_wp2_with fail
      go_ret
      exact ⟨rfl, by repeat (first | exact Below.refl _ _ | assumption | refine below_two ?_ (by assumption))⟩
    | true =>
      rw [hk, if_pos rfl] at J
      have O := Lib.hid (order_yes (n := a0) J hf hn)
      have J := Lib.hid J
      clear hk hj hdm hmul i1 i2 hf hn
      generalize floatOfInt .f64 (a0 % a1) = x at *
      generalize floatOfInt .f64 (a0 / a1) = y at *
      generalize a0 % a1 = u at *
      generalize a0 / a1 = v at *
      go_enter Try.func4, Try.ntmps4
      go_wp2_with fail
      refine (awake_any _).mono ?_
      rintro e w1 ⟨rfl, hb1⟩
      go_wp2_with fail
      refine (P1.out _).mono ?_
      rintro e w2 ⟨rfl, hb2⟩
      go_wp2_with fail
      refine (P2.out _).mono ?_
      rintro e w3 ⟨rfl, rfl⟩
      go_wp2_with fail
      refine (Q.out _).mono ?_
      rintro e w4 ⟨rfl, rfl⟩
      go_wp2_with fail
      refine (J.out _).mono ?_
      rintro e w5 ⟨rfl, hb5⟩
      go_wp2_with fail
      refine (O.out _).mono ?_
      rintro e w6 ⟨rfl, hb6⟩
      go_wp2_with fail
      go_ret
      exact ⟨ret_bool (by first | rfl | (simp; done) | (simp; omega)), by repeat (first | exact Below.refl _ _ | assumption | refine below_two ?_ (by assumption))⟩
end Go.Proofs.Ytflkkgejcpaepaa
