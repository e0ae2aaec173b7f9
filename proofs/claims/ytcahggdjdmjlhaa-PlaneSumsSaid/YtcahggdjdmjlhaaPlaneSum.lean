/- The walks of plane.Plus, Minus, and of the reference's Sum, Product. -/
import Derived.Test.YtcahggdjdmjlhaaPlaneTimes
namespace Go.Proofs.Ytcahggdjdmjlhaa
open Go.RowKit Punnet.Flt
set_option linter.unusedVariables false

/-- What plane.Of tells of parts: the number's, and the code. -/
def ofR (n m : Int) : Nat × Nat × Int := if -4503599627370496 ≤ n ∧ n ≤ 4503599627370496 ∧ -4503599627370496 ≤ m ∧ m ≤ 4503599627370496 then (floatOfInt .f64 n, floatOfInt .f64 m, 0) else (0, 0, 3)

theorem of_any (n m : Int) (w : World) : Calls Try.prog 13 #[.int .i64 n, .int .i64 m] w fun e w' => e = .returned (.tuple #[.complex .f64 (ofR n m).1 (ofR n m).2.1, .int .i64 (ofR n m).2.2]) ∧ w = w' := by
  unfold ofR
  by_cases h : -4503599627370496 ≤ n ∧ n ≤ 4503599627370496 ∧ -4503599627370496 ≤ m ∧ m ≤ 4503599627370496
  · rw [if_pos h]; exact of_yes h.1 h.2.1 h.2.2.1 h.2.2.2 w
  · rw [if_neg h]; exact of_no h w
theorem ofR_same (n m : Int) : FloatKind.f64.format.order (ofR n m).1 (ofR n m).1 = some .eq ∧ FloatKind.f64.format.order (ofR n m).2.1 (ofR n m).2.1 = some .eq := by
  unfold ofR
  by_cases h : -4503599627370496 ≤ n ∧ n ≤ 4503599627370496 ∧ -4503599627370496 ≤ m ∧ m ≤ 4503599627370496
  · rw [if_pos h]
    have h1 := isAt_fl n h.1 h.2.1 (by omega)
    have h2 := isAt_fl m h.2.2.1 h.2.2.2 (by omega)
    exact ⟨h1.same h1, h2.same h2⟩
  · rw [if_neg h]
    exact ⟨isAt_zero.same isAt_zero, isAt_zero.same isAt_zero⟩

set_option maxHeartbeats 400000 in
theorem plus_yes {a b c d : Nat} {n m n' m' : Int} (ha : IsAt a n 4503599627370496) (hb : IsAt b m 4503599627370496) (hc : IsAt c n' 4503599627370496) (hd : IsAt d m' 4503599627370496) (w : World) :
    Calls Try.prog 19 #[.complex .f64 a b, .complex .f64 c d] w fun e w' => e = .returned (.tuple #[.complex .f64 (ofR (n + n') (m + m')).1 (ofR (n + n') (m + m')).2.1, .int .i64 (ofR (n + n') (m + m')).2.2]) ∧ Below w.heap.size w w' := by
  have S1 := Lib.hid (whole_any a b)
  have S2 := Lib.hid (whole_any c d)
  rw [both_ok ha hb] at S1
  rw [both_ok hc hd] at S2
  have P1 := Lib.hid (parts_yes ha hb)
  have P2 := Lib.hid (parts_yes hc hd)
  obtain ⟨b1, b2⟩ := ha.bound
  obtain ⟨b3, b4⟩ := hb.bound
  obtain ⟨b5, b6⟩ := hc.bound
  obtain ⟨b7, b8⟩ := hd.bound
  have O := Lib.hid (of_any (n + n') (m + m'))
  generalize ofR (n + n') (m + m') = R at *
  clear ha hb hc hd
  go_enter Try.func19, Try.ntmps19
  go_wp2_with fail
  refine (S1.out _).mono ?_
  rintro e w1 ⟨rfl, hb1⟩
  go_wp2_with fail
  refine (S2.out _).mono ?_
  rintro e w2 ⟨rfl, hb2⟩
  go_wp2_with fail
  refine (P1.out _).mono ?_
  rintro e w3 ⟨rfl, hb3⟩
  go_wp2_with fail
  refine (P2.out _).mono ?_
  rintro e w4 ⟨rfl, hb4⟩
  go_wp2_with fail
  refine (O.out _).mono ?_
  rintro e w5 ⟨rfl, rfl⟩
  go_wp2_with fail
  go_ret2
  exact ⟨rfl, by repeat (first | exact Below.refl _ _ | assumption | refine below_two ?_ (by assumption))⟩
set_option maxHeartbeats 400000 in
theorem plus_no {a b c d : Nat} (h : (okB a 4503599627370496 && okB b 4503599627370496 && (okB c 4503599627370496 && okB d 4503599627370496)) = false) (w : World) :
    Calls Try.prog 19 #[.complex .f64 a b, .complex .f64 c d] w fun e w' => e = .returned (.tuple #[.complex .f64 0 0, .int .i64 5]) ∧ Below w.heap.size w w' := by
  have S1 := Lib.hid (whole_any a b)
  have S2 := Lib.hid (whole_any c d)
  cases h1 : (okB a 4503599627370496 && okB b 4503599627370496) with
  | false =>
    rw [h1] at S1
    clear h h1
    go_enter Try.func19, Try.ntmps19
    go_wp2_with fail
    refine (S1.out _).mono ?_
    rintro e w1 ⟨rfl, hb1⟩
    go_wp2_with fail
    go_ret2
    exact ⟨rfl, hb1⟩
  | true =>
    rw [h1, Bool.true_and] at h
    rw [h1] at S1
    rw [h] at S2
    clear h h1
    go_enter Try.func19, Try.ntmps19
    go_wp2_with fail
    refine (S1.out _).mono ?_
    rintro e w1 ⟨rfl, hb1⟩
    go_wp2_with fail
    refine (S2.out _).mono ?_
    rintro e w2 ⟨rfl, hb2⟩
    go_wp2_with fail
    go_ret2
    exact ⟨rfl, below_two hb1 hb2⟩
set_option maxHeartbeats 400000 in
theorem minus_yes {a b c d : Nat} {n m n' m' : Int} (ha : IsAt a n 4503599627370496) (hb : IsAt b m 4503599627370496) (hc : IsAt c n' 4503599627370496) (hd : IsAt d m' 4503599627370496) (w : World) :
    Calls Try.prog 21 #[.complex .f64 a b, .complex .f64 c d] w fun e w' => e = .returned (.tuple #[.complex .f64 (ofR (n - n') (m - m')).1 (ofR (n - n') (m - m')).2.1, .int .i64 (ofR (n - n') (m - m')).2.2]) ∧ Below w.heap.size w w' := by
  have S1 := Lib.hid (whole_any a b)
  have S2 := Lib.hid (whole_any c d)
  rw [both_ok ha hb] at S1
  rw [both_ok hc hd] at S2
  have P1 := Lib.hid (parts_yes ha hb)
  have P2 := Lib.hid (parts_yes hc hd)
  obtain ⟨b1, b2⟩ := ha.bound
  obtain ⟨b3, b4⟩ := hb.bound
  obtain ⟨b5, b6⟩ := hc.bound
  obtain ⟨b7, b8⟩ := hd.bound
  have O := Lib.hid (of_any (n - n') (m - m'))
  generalize ofR (n - n') (m - m') = R at *
  clear ha hb hc hd
  go_enter Try.func21, Try.ntmps21
  go_wp2_with fail
  refine (S1.out _).mono ?_
  rintro e w1 ⟨rfl, hb1⟩
  go_wp2_with fail
  refine (S2.out _).mono ?_
  rintro e w2 ⟨rfl, hb2⟩
  go_wp2_with fail
  refine (P1.out _).mono ?_
  rintro e w3 ⟨rfl, hb3⟩
  go_wp2_with fail
  refine (P2.out _).mono ?_
  rintro e w4 ⟨rfl, hb4⟩
  go_wp2_with fail
  refine (O.out _).mono ?_
  rintro e w5 ⟨rfl, rfl⟩
  go_wp2_with fail
  go_ret2
  exact ⟨rfl, by repeat (first | exact Below.refl _ _ | assumption | refine below_two ?_ (by assumption))⟩
set_option maxHeartbeats 400000 in
theorem minus_no {a b c d : Nat} (h : (okB a 4503599627370496 && okB b 4503599627370496 && (okB c 4503599627370496 && okB d 4503599627370496)) = false) (w : World) :
    Calls Try.prog 21 #[.complex .f64 a b, .complex .f64 c d] w fun e w' => e = .returned (.tuple #[.complex .f64 0 0, .int .i64 5]) ∧ Below w.heap.size w w' := by
  have S1 := Lib.hid (whole_any a b)
  have S2 := Lib.hid (whole_any c d)
  cases h1 : (okB a 4503599627370496 && okB b 4503599627370496) with
  | false =>
    rw [h1] at S1
    clear h h1
    go_enter Try.func21, Try.ntmps21
    go_wp2_with fail
    refine (S1.out _).mono ?_
    rintro e w1 ⟨rfl, hb1⟩
    go_wp2_with fail
    go_ret2
    exact ⟨rfl, hb1⟩
  | true =>
    rw [h1, Bool.true_and] at h
    rw [h1] at S1
    rw [h] at S2
    clear h h1
    go_enter Try.func21, Try.ntmps21
    go_wp2_with fail
    refine (S1.out _).mono ?_
    rintro e w1 ⟨rfl, hb1⟩
    go_wp2_with fail
    refine (S2.out _).mono ?_
    rintro e w2 ⟨rfl, hb2⟩
    go_wp2_with fail
    go_ret2
    exact ⟨rfl, below_two hb1 hb2⟩
/-- Does the reference tell these parts, both of whole numbers? -/
theorem both_no {a b c d : Nat} {M : Int} (h : (okB a M && okB b M && (okB c M && okB d M)) = false) : (okB a M && okB b M) = false ∨ (okB c M && okB d M) = false := by
  cases h1 : (okB a M && okB b M) with
  | false => exact .inl rfl
  | true => rw [h1, Bool.true_and] at h; exact .inr h
theorem refFits_any (n m : Int) (w : World) : Calls Try.prog 14 #[.int .i64 n, .int .i64 m] w fun e w' => e = .returned (.bool (decide ((ofR n m).2.2 = 0))) ∧ w = w' := by
  unfold ofR
  by_cases h : -4503599627370496 ≤ n ∧ n ≤ 4503599627370496 ∧ -4503599627370496 ≤ m ∧ m ≤ 4503599627370496
  · rw [if_pos h]; exact refFits_yes h.1 h.2.1 h.2.2.1 h.2.2.2 w
  · rw [if_neg h]; exact refFits_no h w
set_option maxHeartbeats 800000 in
theorem refSum_yes {a b c d : Nat} {n m n' m' : Int} (ha : IsAt a n 4503599627370496) (hb : IsAt b m 4503599627370496) (hc : IsAt c n' 4503599627370496) (hd : IsAt d m' 4503599627370496) (w : World) :
    Calls Try.prog 20 #[.complex .f64 a b, .complex .f64 c d, .int .i64 1] w fun e w' => e = .returned (.tuple #[.complex .f64 (ofR (n + n') (m + m')).1 (ofR (n + n') (m + m')).2.1, .int .i64 (ofR (n + n') (m + m')).2.2]) ∧ w = w' := by
  have P1 := Lib.hid (refParts_yes ha hb (by omega) (by omega))
  have P2 := Lib.hid (refParts_yes hc hd (by omega) (by omega))
  obtain ⟨b1, b2⟩ := ha.bound
  obtain ⟨b3, b4⟩ := hb.bound
  obtain ⟨b5, b6⟩ := hc.bound
  obtain ⟨b7, b8⟩ := hd.bound
  have ex : n + n' = n + n' := by omega
  have ey : m + m' = m + m' := by omega
  rw [ex, ey]
  clear ha hb hc hd ex ey
  by_cases h : -4503599627370496 ≤ n + n' ∧ n + n' ≤ 4503599627370496 ∧ -4503599627370496 ≤ m + m' ∧ m + m' ≤ 4503599627370496
  · have HR := Lib.hid (show ofR (n + n') (m + m') = (floatOfInt .f64 (n + n'), floatOfInt .f64 (m + m'), 0) by unfold ofR; rw [if_pos h])
    obtain ⟨h1, h2, h3, h4⟩ := h
    have F := Lib.hid (refFits_yes h1 h2 h3 h4)
    go_enter Try.func20, Try.ntmps20
    go_wp2_with fail
    refine (P1.out _).mono ?_
    rintro e w1 ⟨rfl, rfl⟩
    go_wp2_with fail
    refine (P2.out _).mono ?_
    rintro e w1 ⟨rfl, rfl⟩
    go_wp2_with fail
    refine (F.out _).mono ?_
    rintro e w1 ⟨rfl, rfl⟩
    go_wp2_with fail
    refine (refOf_any _ _ _).mono ?_
    rintro e w1 ⟨rfl, rfl⟩
    go_wp2_with fail
    go_ret2
    exact ⟨by rw [HR.out]; rfl, rfl⟩
  · have HR := Lib.hid (show ofR (n + n') (m + m') = (0, 0, 3) by unfold ofR; rw [if_neg h])
    have F := Lib.hid (refFits_no h)
    clear h
    go_enter Try.func20, Try.ntmps20
    go_wp2_with fail
    refine (P1.out _).mono ?_
    rintro e w1 ⟨rfl, rfl⟩
    go_wp2_with fail
    refine (P2.out _).mono ?_
    rintro e w1 ⟨rfl, rfl⟩
    go_wp2_with fail
    refine (F.out _).mono ?_
    rintro e w1 ⟨rfl, rfl⟩
    go_wp2_with fail
    go_ret2
    exact ⟨by rw [HR.out]; rfl, rfl⟩
set_option maxHeartbeats 800000 in
theorem refSumMinus_yes {a b c d : Nat} {n m n' m' : Int} (ha : IsAt a n 4503599627370496) (hb : IsAt b m 4503599627370496) (hc : IsAt c n' 4503599627370496) (hd : IsAt d m' 4503599627370496) (w : World) :
    Calls Try.prog 20 #[.complex .f64 a b, .complex .f64 c d, .int .i64 (-1)] w fun e w' => e = .returned (.tuple #[.complex .f64 (ofR (n - n') (m - m')).1 (ofR (n - n') (m - m')).2.1, .int .i64 (ofR (n - n') (m - m')).2.2]) ∧ w = w' := by
  have P1 := Lib.hid (refParts_yes ha hb (by omega) (by omega))
  have P2 := Lib.hid (refParts_yes hc hd (by omega) (by omega))
  obtain ⟨b1, b2⟩ := ha.bound
  obtain ⟨b3, b4⟩ := hb.bound
  obtain ⟨b5, b6⟩ := hc.bound
  obtain ⟨b7, b8⟩ := hd.bound
  have ex : n - n' = n + -n' := by omega
  have ey : m - m' = m + -m' := by omega
  rw [ex, ey]
  clear ha hb hc hd ex ey
  by_cases h : -4503599627370496 ≤ n + -n' ∧ n + -n' ≤ 4503599627370496 ∧ -4503599627370496 ≤ m + -m' ∧ m + -m' ≤ 4503599627370496
  · have HR := Lib.hid (show ofR (n + -n') (m + -m') = (floatOfInt .f64 (n + -n'), floatOfInt .f64 (m + -m'), 0) by unfold ofR; rw [if_pos h])
    obtain ⟨h1, h2, h3, h4⟩ := h
    have F := Lib.hid (refFits_yes h1 h2 h3 h4)
    go_enter Try.func20, Try.ntmps20
    go_wp2_with fail
    refine (P1.out _).mono ?_
    rintro e w1 ⟨rfl, rfl⟩
    go_wp2_with fail
    refine (P2.out _).mono ?_
    rintro e w1 ⟨rfl, rfl⟩
    go_wp2_with fail
    refine (F.out _).mono ?_
    rintro e w1 ⟨rfl, rfl⟩
    go_wp2_with fail
    refine (refOf_any _ _ _).mono ?_
    rintro e w1 ⟨rfl, rfl⟩
    go_wp2_with fail
    go_ret2
    exact ⟨by rw [HR.out]; rfl, rfl⟩
  · have HR := Lib.hid (show ofR (n + -n') (m + -m') = (0, 0, 3) by unfold ofR; rw [if_neg h])
    have F := Lib.hid (refFits_no h)
    clear h
    go_enter Try.func20, Try.ntmps20
    go_wp2_with fail
    refine (P1.out _).mono ?_
    rintro e w1 ⟨rfl, rfl⟩
    go_wp2_with fail
    refine (P2.out _).mono ?_
    rintro e w1 ⟨rfl, rfl⟩
    go_wp2_with fail
    refine (F.out _).mono ?_
    rintro e w1 ⟨rfl, rfl⟩
    go_wp2_with fail
    go_ret2
    exact ⟨by rw [HR.out]; rfl, rfl⟩
set_option maxHeartbeats 400000 in
theorem refSum_no {a b c d : Nat} (h : (okB a 4503599627370496 && okB b 4503599627370496 && (okB c 4503599627370496 && okB d 4503599627370496)) = false) (sg : Int) (w : World) :
    Calls Try.prog 20 #[.complex .f64 a b, .complex .f64 c d, .int .i64 sg] w fun e w' => e = .returned (.tuple #[.complex .f64 0 0, .int .i64 5]) ∧ w = w' := by
  have key : ∃ (x y z t : Int) (p q : Bool), Hid (∀ w, Calls Try.prog 9 #[.complex .f64 a b, .int .i64 4503599627370496] w fun e w' => e = .returned (.tuple #[.int .i64 x, .int .i64 y, .bool p]) ∧ w = w') ∧
      Hid (∀ w, Calls Try.prog 9 #[.complex .f64 c d, .int .i64 4503599627370496] w fun e w' => e = .returned (.tuple #[.int .i64 z, .int .i64 t, .bool q]) ∧ w = w') ∧ (p = false ∨ (p = true ∧ q = false)) := by
    rcases both_cases a b 4503599627370496 with ⟨n, m, hn, hm⟩ | h1
    · have h2 := both_no h
      rw [both_ok hn hm] at h2
      rcases h2 with h2 | h2
      · cases h2
      · exact ⟨n, m, 0, 0, true, false, fun w => refParts_yes hn hm (by omega) (by omega) w, fun w => refParts_no h2 (by omega) (by omega) w, .inr ⟨rfl, rfl⟩⟩
    · rcases both_cases c d 4503599627370496 with ⟨n, m, hn, hm⟩ | h2
      · exact ⟨0, 0, n, m, false, true, fun w => refParts_no h1 (by omega) (by omega) w, fun w => refParts_yes hn hm (by omega) (by omega) w, .inl rfl⟩
      · exact ⟨0, 0, 0, 0, false, false, fun w => refParts_no h1 (by omega) (by omega) w, fun w => refParts_no h2 (by omega) (by omega) w, .inl rfl⟩
  obtain ⟨x, y, z, t, p, q, P1, P2, hpq⟩ := key
  clear h
  rcases hpq with rfl | ⟨rfl, rfl⟩
  all_goals
    go_enter Try.func20, Try.ntmps20
    go_wp2_with fail
    refine (P1.out _).mono ?_
    rintro e w1 ⟨rfl, rfl⟩
    go_wp2_with fail
    refine (P2.out _).mono ?_
    rintro e w1 ⟨rfl, rfl⟩
    go_wp2_with fail
    go_ret2
    exact ⟨rfl, rfl⟩

set_option maxHeartbeats 800000 in
theorem refProduct_yes {a b c d : Nat} {n m n' m' : Int} (ha : IsAt a n 33554432) (hb : IsAt b m 33554432) (hc : IsAt c n' 33554432) (hd : IsAt d m' 33554432) (w : World) :
    Calls Try.prog 22 #[.complex .f64 a b, .complex .f64 c d] w fun e w' => e = .returned (.tuple #[.complex .f64 (floatOfInt .f64 (n * n' - m * m')) (floatOfInt .f64 (n * m' + m * n')), .int .i64 0]) ∧ w = w' := by
  have P1 := Lib.hid (refParts_yes ha hb (by omega) (by omega))
  have P2 := Lib.hid (refParts_yes hc hd (by omega) (by omega))
  obtain ⟨b1, b2⟩ := mul_small ha.2.1 ha.2.2 hc.2.1 hc.2.2
  obtain ⟨b3, b4⟩ := mul_small hb.2.1 hb.2.2 hd.2.1 hd.2.2
  obtain ⟨b5, b6⟩ := mul_small ha.2.1 ha.2.2 hd.2.1 hd.2.2
  obtain ⟨b7, b8⟩ := mul_small hb.2.1 hb.2.2 hc.2.1 hc.2.2
  clear ha hb hc hd
  go_enter Try.func22, Try.ntmps22
  go_wp2_with fail
  refine (P1.out _).mono ?_
  rintro e w1 ⟨rfl, rfl⟩
  go_wp2_with fail
  refine (P2.out _).mono ?_
  rintro e w1 ⟨rfl, rfl⟩
  go_wp2_with fail
  refine (refOf_any _ _ _).mono ?_
  rintro e w1 ⟨rfl, rfl⟩
  go_wp2_with fail
  go_ret2
  exact ⟨rfl, rfl⟩
set_option maxHeartbeats 400000 in
theorem refProduct_no {a b c d : Nat} (h : (okB a 33554432 && okB b 33554432 && (okB c 33554432 && okB d 33554432)) = false) (w : World) :
    Calls Try.prog 22 #[.complex .f64 a b, .complex .f64 c d] w fun e w' => e = .returned (.tuple #[.complex .f64 0 0, .int .i64 5]) ∧ w = w' := by
  have key : ∃ (x y z t : Int) (p q : Bool), Hid (∀ w, Calls Try.prog 9 #[.complex .f64 a b, .int .i64 33554432] w fun e w' => e = .returned (.tuple #[.int .i64 x, .int .i64 y, .bool p]) ∧ w = w') ∧
      Hid (∀ w, Calls Try.prog 9 #[.complex .f64 c d, .int .i64 33554432] w fun e w' => e = .returned (.tuple #[.int .i64 z, .int .i64 t, .bool q]) ∧ w = w') ∧ (p = false ∨ (p = true ∧ q = false)) := by
    rcases both_cases a b 33554432 with ⟨n, m, hn, hm⟩ | h1
    · have h2 := both_no h
      rw [both_ok hn hm] at h2
      rcases h2 with h2 | h2
      · cases h2
      · exact ⟨n, m, 0, 0, true, false, fun w => refParts_yes hn hm (by omega) (by omega) w, fun w => refParts_no h2 (by omega) (by omega) w, .inr ⟨rfl, rfl⟩⟩
    · rcases both_cases c d 33554432 with ⟨n, m, hn, hm⟩ | h2
      · exact ⟨0, 0, n, m, false, true, fun w => refParts_no h1 (by omega) (by omega) w, fun w => refParts_yes hn hm (by omega) (by omega) w, .inl rfl⟩
      · exact ⟨0, 0, 0, 0, false, false, fun w => refParts_no h1 (by omega) (by omega) w, fun w => refParts_no h2 (by omega) (by omega) w, .inl rfl⟩
  obtain ⟨x, y, z, t, p, q, P1, P2, hpq⟩ := key
  clear h
  rcases hpq with rfl | ⟨rfl, rfl⟩
  all_goals
    go_enter Try.func22, Try.ntmps22
    go_wp2_with fail
    refine (P1.out _).mono ?_
    rintro e w1 ⟨rfl, rfl⟩
    go_wp2_with fail
    refine (P2.out _).mono ?_
    rintro e w1 ⟨rfl, rfl⟩
    go_wp2_with fail
    go_ret2
    exact ⟨rfl, rfl⟩

end Go.Proofs.Ytcahggdjdmjlhaa
