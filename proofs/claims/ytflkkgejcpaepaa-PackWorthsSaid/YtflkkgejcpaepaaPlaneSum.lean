/- The walks of plane.Plus, Minus, and of the reference's Sum, Product. -/
import Derived.Test.YtflkkgejcpaepaaPlaneRef
namespace Go.Proofs.Ytflkkgejcpaepaa
open Go.RowKit Punnet.Flt
set_option linter.unusedVariables false

/-- What plane.Of tells of parts: the number's, and the code. -/
def ofR (n m : Int) : Nat × Nat × Int := if -4503599627370496 ≤ n ∧ n ≤ 4503599627370496 ∧ -4503599627370496 ≤ m ∧ m ≤ 4503599627370496 then (floatOfInt .f64 n, floatOfInt .f64 m, 0) else (0, 0, 3)

theorem of_any (n m : Int) (w : World) : Calls Try.prog 23 #[.int .i64 n, .int .i64 m] w fun e w' => e = .returned (.tuple #[.complex .f64 (ofR n m).1 (ofR n m).2.1, .int .i64 (ofR n m).2.2]) ∧ w = w' := by
  unfold ofR
  by_cases h : -4503599627370496 ≤ n ∧ n ≤ 4503599627370496 ∧ -4503599627370496 ≤ m ∧ m ≤ 4503599627370496
  · rw [if_pos h]; exact of_yes h.1 h.2.1 h.2.2.1 h.2.2.2 w
  · rw [if_neg h]; exact of_no h w
theorem ofR_same (n m : Int) : FloatKind.f64.format.order (ofR n m).1 (ofR n m).1 = some .eq ∧ FloatKind.f64.format.order (ofR n m).2.1 (ofR n m).2.1 = some .eq := by
  unfold ofR
  by_cases h : -4503599627370496 ≤ n ∧ n ≤ 4503599627370496 ∧ -4503599627370496 ≤ m ∧ m ≤ 4503599627370496
  · rw [if_pos h]
    have h1 := isAt_fl n h.1 h.2.1 (by omega)
    have h2 := isAt_fl m h.2.2.1 h.2.2.2 (by omega)
    exact ⟨h1.same h1, h2.same h2⟩
  · rw [if_neg h]
    exact ⟨isAt_zero.same isAt_zero, isAt_zero.same isAt_zero⟩

set_option maxHeartbeats 400000 in
theorem plus_yes {a b c d : Nat} {n m n' m' : Int} (ha : IsAt a n 4503599627370496) (hb : IsAt b m 4503599627370496) (hc : IsAt c n' 4503599627370496) (hd : IsAt d m' 4503599627370496) (w : World) :
    Calls Try.prog 17 #[.complex .f64 a b, .complex .f64 c d] w fun e w' => e = .returned (.tuple #[.complex .f64 (ofR (n + n') (m + m')).1 (ofR (n + n') (m + m')).2.1, .int .i64 (ofR (n + n') (m + m')).2.2]) ∧ Below w.heap.size w w' := by
  have S1 := Lib.hid (whole_any a b)
  have S2 := Lib.hid (whole_any c d)
  rw [both_ok ha hb] at S1
  rw [both_ok hc hd] at S2
  have P1 := Lib.hid (parts_yes ha hb)
  have P2 := Lib.hid (parts_yes hc hd)
  obtain ⟨b1, b2⟩ := ha.bound
  obtain ⟨b3, b4⟩ := hb.bound
  obtain ⟨b5, b6⟩ := hc.bound
  obtain ⟨b7, b8⟩ := hd.bound
  have O := Lib.hid (of_any (n + n') (m + m'))
  generalize ofR (n + n') (m + m') = R at *
  clear ha hb hc hd
  go_enter Try.func17, Try.ntmps17
  go_wp2_with fail
  refine (S1.out _).mono ?_
  rintro e w1 ⟨rfl, hb1⟩
  go_wp2_with fail
  refine (S2.out _).mono ?_
  rintro e w2 ⟨rfl, hb2⟩
  go_wp2_with fail
  refine (P1.out _).mono ?_
  rintro e w3 ⟨rfl, hb3⟩
  go_wp2_with fail
  refine (P2.out _).mono ?_
  rintro e w4 ⟨rfl, hb4⟩
  go_wp2_with fail
  refine (O.out _).mono ?_
  rintro e w5 ⟨rfl, rfl⟩
  go_wp2_with fail
  go_ret2
  exact ⟨rfl, by repeat (first | exact Below.refl _ _ | assumption | refine below_two ?_ (by assumption))⟩
set_option maxHeartbeats 400000 in
theorem plus_no {a b c d : Nat} (h : (okB a 4503599627370496 && okB b 4503599627370496 && (okB c 4503599627370496 && okB d 4503599627370496)) = false) (w : World) :
    Calls Try.prog 17 #[.complex .f64 a b, .complex .f64 c d] w fun e w' => e = .returned (.tuple #[.complex .f64 0 0, .int .i64 5]) ∧ Below w.heap.size w w' := by
  have S1 := Lib.hid (whole_any a b)
  have S2 := Lib.hid (whole_any c d)
  cases h1 : (okB a 4503599627370496 && okB b 4503599627370496) with
  | false =>
    rw [h1] at S1
    clear h h1
    go_enter Try.func17, Try.ntmps17
    go_wp2_with fail
    refine (S1.out _).mono ?_
    rintro e w1 ⟨rfl, hb1⟩
    go_wp2_with fail
    go_ret2
    exact ⟨rfl, hb1⟩
  | true =>
    rw [h1, Bool.true_and] at h
    rw [h1] at S1
    rw [h] at S2
    clear h h1
    go_enter Try.func17, Try.ntmps17
    go_wp2_with fail
    refine (S1.out _).mono ?_
    rintro e w1 ⟨rfl, hb1⟩
    go_wp2_with fail
    refine (S2.out _).mono ?_
    rintro e w2 ⟨rfl, hb2⟩
    go_wp2_with fail
    go_ret2
    exact ⟨rfl, below_two hb1 hb2⟩


end Go.Proofs.Ytflkkgejcpaepaa
