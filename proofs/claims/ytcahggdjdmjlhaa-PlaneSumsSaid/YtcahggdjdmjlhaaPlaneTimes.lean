/- The walks of plane.Times, Norm. -/
import Derived.Test.YtcahggdjdmjlhaaPlaneRef
namespace Go.Proofs.Ytcahggdjdmjlhaa
open Go.RowKit Punnet.Flt
set_option linter.unusedVariables false

theorem mul_bound {a b A B : Int} (h1 : -A ≤ a) (h2 : a ≤ A) (h3 : -B ≤ b) (h4 : b ≤ B) : -(A * B) ≤ a * b ∧ a * b ≤ A * B := by
  have hA : 0 ≤ A := by omega
  have hB : 0 ≤ B := by omega
  have e : (a * b).natAbs ≤ (A * B).natAbs := by
    rw [Int.natAbs_mul, Int.natAbs_mul]
    exact Nat.mul_le_mul (by omega) (by omega)
  have hAB : 0 ≤ A * B := Int.mul_nonneg hA hB
  omega
theorem mul_small {a b : Int} (h1 : -33554432 ≤ a) (h2 : a ≤ 33554432) (h3 : -33554432 ≤ b) (h4 : b ≤ 33554432) : -1125899906842624 ≤ a * b ∧ a * b ≤ 1125899906842624 := mul_bound h1 h2 h3 h4

set_option maxHeartbeats 400000 in
theorem times_yes {a b c d : Nat} {n m n' m' : Int} (ha : IsAt a n 33554432) (hb : IsAt b m 33554432) (hc : IsAt c n' 33554432) (hd : IsAt d m' 33554432) (w : World) :
    Calls Try.prog 17 #[.complex .f64 a b, .complex .f64 c d] w fun e w' => e = .returned (.tuple #[.complex .f64 (floatOfInt .f64 (n * n' - m * m')) (floatOfInt .f64 (n * m' + m * n')), .int .i64 0]) ∧ Below w.heap.size w w' := by
  have S1 := Lib.hid (small_any a b)
  have S2 := Lib.hid (small_any c d)
  rw [both_ok ha hb] at S1
  rw [both_ok hc hd] at S2
  have P1 := Lib.hid (parts_yes ha.whole hb.whole)
  have P2 := Lib.hid (parts_yes hc.whole hd.whole)
  obtain ⟨b1, b2⟩ := mul_small ha.2.1 ha.2.2 hc.2.1 hc.2.2
  obtain ⟨b3, b4⟩ := mul_small hb.2.1 hb.2.2 hd.2.1 hd.2.2
  obtain ⟨b5, b6⟩ := mul_small ha.2.1 ha.2.2 hd.2.1 hd.2.2
  obtain ⟨b7, b8⟩ := mul_small hb.2.1 hb.2.2 hc.2.1 hc.2.2
  have O := Lib.hid (of_yes (n := n * n' - m * m') (m := n * m' + m * n') (by omega) (by omega) (by omega) (by omega))
  clear ha hb hc hd
  go_enter Try.func17, Try.ntmps17
  go_wp2_with fail
  refine (S1.out _).mono ?_
  rintro e w1 ⟨rfl, hb1⟩
  go_wp2_with fail
  refine (S2.out _).mono ?_
  rintro e w2 ⟨rfl, hb2⟩
  go_wp2_with fail
  refine (P1.out _).mono ?_
  rintro e w3 ⟨rfl, hb3⟩
  go_wp2_with fail
  refine (P2.out _).mono ?_
  rintro e w4 ⟨rfl, hb4⟩
  go_wp2_with fail
  refine (O.out _).mono ?_
  rintro e w5 ⟨rfl, rfl⟩
  go_wp2_with fail
  go_ret2
  exact ⟨rfl, by repeat (first | exact Below.refl _ _ | assumption | refine below_two ?_ (by assumption))⟩
set_option maxHeartbeats 400000 in
theorem times_no {a b c d : Nat} (h : (okB a 33554432 && okB b 33554432 && (okB c 33554432 && okB d 33554432)) = false) (w : World) :
    Calls Try.prog 17 #[.complex .f64 a b, .complex .f64 c d] w fun e w' => e = .returned (.tuple #[.complex .f64 0 0, .int .i64 5]) ∧ Below w.heap.size w w' := by
  have S1 := Lib.hid (small_any a b)
  have S2 := Lib.hid (small_any c d)
  cases h1 : (okB a 33554432 && okB b 33554432) with
  | false =>
    rw [h1] at S1
    clear h h1
    go_enter Try.func17, Try.ntmps17
    go_wp2_with fail
    refine (S1.out _).mono ?_
    rintro e w1 ⟨rfl, hb1⟩
    go_wp2_with fail
    go_ret2
    exact ⟨rfl, hb1⟩
  | true =>
    rw [h1, Bool.true_and] at h
    rw [h1] at S1
    rw [h] at S2
    clear h h1
    go_enter Try.func17, Try.ntmps17
    go_wp2_with fail
    refine (S1.out _).mono ?_
    rintro e w1 ⟨rfl, hb1⟩
    go_wp2_with fail
    refine (S2.out _).mono ?_
    rintro e w2 ⟨rfl, hb2⟩
    go_wp2_with fail
    go_ret2
    exact ⟨rfl, below_two hb1 hb2⟩

set_option maxHeartbeats 400000 in
theorem norm_yes {a b : Nat} {n m : Int} (ha : IsAt a n 33554432) (hb : IsAt b m 33554432) (w : World) :
    Calls Try.prog 18 #[.complex .f64 a b] w fun e w' => e = .returned (.tuple #[.int .i64 (n * n + m * m), .int .i64 0]) ∧ Below w.heap.size w w' := by
  have S1 := Lib.hid (small_any a b)
  rw [both_ok ha hb] at S1
  have i0 : ∀ w, (Instr.index 51 (.agg #[.float .f64 a, .float .f64 b]) (.int .i64 0)).run Try.prog w = .ok (.float .f64 a) w := fun _ => by kernel_rfl
  have i1 : ∀ w, (Instr.index 51 (.agg #[.float .f64 a, .float .f64 b]) (.int .i64 1)).run Try.prog w = .ok (.float .f64 b) w := fun _ => by kernel_rfl
  have c1 := fun w => run_convert_float_int (P := Try.prog) w 22 2 .f64 .i64 a n (by kernel_rfl) Try.underlying2 ha.toInt
  have c2 := fun w => run_convert_float_int (P := Try.prog) w 22 2 .f64 .i64 b m (by kernel_rfl) Try.underlying2 hb.toInt
  obtain ⟨b1, b2⟩ := mul_small ha.2.1 ha.2.2 ha.2.1 ha.2.2
  obtain ⟨b3, b4⟩ := mul_small hb.2.1 hb.2.2 hb.2.1 hb.2.2
  clear ha hb
  go_enter Try.func18, Try.ntmps18
  go_wp2_with fail
  refine (S1.out _).mono ?_
  rintro e w1 ⟨rfl, hb1⟩
  go_wp2_with fail
  refine (parts_any _ _ _).mono ?_
  rintro e w2 ⟨rfl, hb2⟩
  go_wp2_with fail
  refine wp_loop_rounds 3 ?_
  rw [rounds_succ]
  go_wp2
  rw [rounds_succ]
  go_wp2
  rw [rounds_succ]
  go_wp2
  go_ret2
  exact ⟨rfl, below_two hb1 hb2⟩
set_option maxHeartbeats 400000 in
theorem norm_no {a b : Nat} (h : (okB a 33554432 && okB b 33554432) = false) (w : World) :
    Calls Try.prog 18 #[.complex .f64 a b] w fun e w' => e = .returned (.tuple #[.int .i64 0, .int .i64 5]) ∧ Below w.heap.size w w' := by
  have S1 := Lib.hid (small_any a b)
  rw [h] at S1
  clear h
  go_enter Try.func18, Try.ntmps18
  go_wp2_with fail
  refine (S1.out _).mono ?_
  rintro e w1 ⟨rfl, hb1⟩
  go_wp2_with fail
  go_ret2
  exact ⟨rfl, hb1⟩

/-- A constant of the text that is the float of a whole number. -/
theorem isAt_const {x : Nat} (n M : Int) (hx : floatOfInt .f64 n = x) (h0 : -M ≤ n) (h1 : n ≤ M) (hM : M ≤ 4503599627370496) : IsAt x n M := hx ▸ isAt_fl n h0 h1 hM

theorem i64_of_wf {n : Int} (h : (Lit.int .i64 n).wf = true) : -9223372036854775808 ≤ n ∧ n ≤ 9223372036854775807 := by
  simpa [Lit.wf, IntKind.min, IntKind.max, IntKind.signed, IntKind.bits] using h

end Go.Proofs.Ytcahggdjdmjlhaa
