/- The walks of plane.Whole, Small, Parts, fits, Of. -/
import Derived.Test.YtlhmfdklpjpnlaaPlaneParts
namespace Go.Proofs.Ytlhmfdklpjpnlaa
open Go.RowKit Punnet.Flt
set_option linter.unusedVariables false

theorem unit_most : unitOf 4841369599423283200 = some (4503599627370496 * K) := ofInt_units 4503599627370496 (by decide)
theorem unit_least : unitOf 14064741636278059008 = some (-4503599627370496 * K) := by
  have h := ofInt_units (-4503599627370496) (by decide)
  rw [show Ieee.double.write (.number (decide ((-4503599627370496 : Int) < 0)) (-4503599627370496 : Int).natAbs 0) = 14064741636278059008 by decide +kernel] at h
  exact h
theorem unit_small : unitOf 4719772409484279808 = some (33554432 * K) := ofInt_units 33554432 (by decide)
theorem unit_small_neg : unitOf 13943144446339055616 = some (-33554432 * K) := by
  have h := ofInt_units (-33554432) (by decide)
  rw [show Ieee.double.write (.number (decide ((-33554432 : Int) < 0)) (-33554432 : Int).natAbs 0) = 13943144446339055616 by decide +kernel] at h
  exact h

set_option maxHeartbeats 400000 in
theorem whole_any (a b : Nat) (w : World) : Calls Try.prog 42 #[.complex .f64 a b] w fun e w' => e = .returned (.bool (okB a 4503599627370496 && okB b 4503599627370496)) ∧ Below w.heap.size w w' := by
  have H := Lib.hid (within_any a b 4841369599423283200 4503599627370496 w unit_most unit_least (by omega))
  go_enter Try.func42, Try.ntmps42
  go_wp2_with (go_at_call 41; refine H.out.mono ?_; rintro e w1 ⟨rfl, hb1⟩)
  go_ret
  exact ⟨rfl, hb1⟩
set_option maxHeartbeats 400000 in
theorem small_any (a b : Nat) (w : World) : Calls Try.prog 37 #[.complex .f64 a b] w fun e w' => e = .returned (.bool (okB a 33554432 && okB b 33554432)) ∧ Below w.heap.size w w' := by
  have H := Lib.hid (within_any a b 4719772409484279808 33554432 w unit_small unit_small_neg (by omega))
  go_enter Try.func37, Try.ntmps37
  go_wp2_with (go_at_call 41; refine H.out.mono ?_; rintro e w1 ⟨rfl, hb1⟩)
  go_ret
  exact ⟨rfl, hb1⟩

/-- A float that is the whole number n, no more than M away from 0. -/
def IsAt (x : Nat) (n M : Int) : Prop := wholeOf x = some n ∧ -M ≤ n ∧ n ≤ M

theorem okB_iff {x : Nat} {M : Int} : okB x M = true ↔ ∃ n, IsAt x n M := by
  unfold okB IsAt
  cases h : wholeOf x with
  | none => simp
  | some n => simp
theorem IsAt.ok {x : Nat} {n M : Int} (h : IsAt x n M) : okB x M = true := okB_iff.2 ⟨n, h⟩
theorem IsAt.unit {x : Nat} {n M : Int} (h : IsAt x n M) : unitOf x = some (n * K) := (wholeOf_some.1 h.1).1
theorem IsAt.bound {x : Nat} {n M : Int} (h : IsAt x n M) : -4503599627370496 ≤ n ∧ n ≤ 4503599627370496 := (wholeOf_some.1 h.1).2
theorem IsAt.more {x : Nat} {n M M' : Int} (h : IsAt x n M) (hM : M ≤ M') : IsAt x n M' := ⟨h.1, by have := h.2; omega, by have := h.2; omega⟩
theorem IsAt.whole {x : Nat} {n M : Int} (h : IsAt x n M) : IsAt x n 4503599627370496 := ⟨h.1, h.bound⟩
theorem IsAt.toInt {x : Nat} {n M : Int} (h : IsAt x n M) : floatToIntVal .f64 x .i64 = some n := by
  have hb := h.bound
  have ht : (FloatKind.f64.decode x).toInt .zero = some n := by
    have := toInt_units h.unit
    rw [tdiv_mul] at this
    exact this
  unfold floatToIntVal
  rw [ht]
  simp only
  rw [if_pos]
  show -9223372036854775808 ≤ n ∧ n ≤ 9223372036854775807
  omega
theorem isAt_fl (n : Int) {M : Int} (h0 : -M ≤ n) (h1 : n ≤ M) (hM : M ≤ 4503599627370496) : IsAt (floatOfInt .f64 n) n M := ⟨ofInt_whole n (by omega) (by omega), h0, h1⟩
theorem IsAt.order {x y : Nat} {n m M M' : Int} (h : IsAt x n M) (h' : IsAt y m M') : FloatKind.f64.format.order x y = some (compare n m) := by
  have := order_units h.unit h'.unit
  rw [compare_scale _ _ _ K_pos] at this
  exact this
theorem IsAt.same {x y : Nat} {n M M' : Int} (h : IsAt x n M) (h' : IsAt y n M') : FloatKind.f64.format.order x y = some .eq := by
  rw [h.order h', compare_eq]
theorem IsAt.eq_iff {x y : Nat} {n m M M' : Int} (h : IsAt x n M) (h' : IsAt y m M') : (FloatKind.f64.format.order x y == some .eq) = decide (n = m) := by
  rw [h.order h']
  rcases Int.lt_trichotomy n m with h | rfl | h
  · rw [compare_lt h, decide_eq_false (by omega)]; rfl
  · rw [compare_eq, decide_eq_true rfl]; rfl
  · rw [compare_gt h, decide_eq_false (by omega)]; rfl
theorem isAt_zero : IsAt 0 0 0 := ⟨wholeOf_some.2 ⟨(nearest_zero false).trans (by simp), by omega, by omega⟩, by omega, by omega⟩
/-- Both parts are, or one isn't. -/
theorem both_cases (a b : Nat) (M : Int) : (∃ n m, IsAt a n M ∧ IsAt b m M) ∨ (okB a M && okB b M) = false := by
  cases ha : okB a M with
  | false => exact .inr rfl
  | true =>
    cases hb : okB b M with
    | false => exact .inr rfl
    | true =>
      obtain ⟨n, hn⟩ := okB_iff.1 ha
      obtain ⟨m, hm⟩ := okB_iff.1 hb
      exact .inl ⟨n, m, hn, hm⟩
theorem both_ok {a b : Nat} {n m M : Int} (ha : IsAt a n M) (hb : IsAt b m M) : (okB a M && okB b M) = true := by rw [ha.ok, hb.ok]; rfl

set_option maxHeartbeats 400000 in
theorem parts_yes {a b : Nat} {n m : Int} (ha : IsAt a n 4503599627370496) (hb : IsAt b m 4503599627370496) (w : World) :
    Calls Try.prog 38 #[.complex .f64 a b] w fun e w' => e = .returned (.tuple #[.int .i64 n, .int .i64 m, .int .i64 0]) ∧ Below w.heap.size w w' := by
  have H := Lib.hid (whole_any a b w)
  rw [both_ok ha hb] at H
  have c1 := fun w => run_convert_float_int (P := Try.prog) w 38 2 .f64 .i64 a n (by kernel_rfl) Try.underlying2 ha.toInt
  have c2 := fun w => run_convert_float_int (P := Try.prog) w 38 2 .f64 .i64 b m (by kernel_rfl) Try.underlying2 hb.toInt
  clear ha hb
  go_enter Try.func38, Try.ntmps38
  go_wp2_with (go_at_call 42; refine H.out.mono ?_; rintro e w1 ⟨rfl, hb1⟩)
  go_ret3
  exact ⟨rfl, hb1⟩
set_option maxHeartbeats 400000 in
theorem parts_no {a b : Nat} (h : (okB a 4503599627370496 && okB b 4503599627370496) = false) (w : World) :
    Calls Try.prog 38 #[.complex .f64 a b] w fun e w' => e = .returned (.tuple #[.int .i64 0, .int .i64 0, .int .i64 5]) ∧ Below w.heap.size w w' := by
  have H := Lib.hid (whole_any a b w)
  rw [h] at H
  clear h
  go_enter Try.func38, Try.ntmps38
  go_wp2_with (go_at_call 42; refine H.out.mono ?_; rintro e w1 ⟨rfl, hb1⟩)
  go_ret3
  exact ⟨rfl, hb1⟩

/-- May it be a part? -/
def fitsB (n : Int) : Bool := decide (-4503599627370496 ≤ n ∧ n ≤ 4503599627370496)
theorem fits_any (n : Int) (w : World) : Calls Try.prog 40 #[.int .i64 n] w fun e w' => e = .returned (.bool (fitsB n)) ∧ w = w' := by
  by_cases h1 : -4503599627370496 ≤ n
  · by_cases h2 : n ≤ 4503599627370496
    · have HV := Lib.hid (show fitsB n = true from decide_eq_true ⟨h1, h2⟩)
      go_enter Try.func40, Try.ntmps40
      go_wp2
      go_ret
      exact ⟨ret_bool (by rw [HV.out]), rfl⟩
    · have HV := Lib.hid (show fitsB n = false from decide_eq_false fun h => h2 h.2)
      go_enter Try.func40, Try.ntmps40
      go_wp2
      go_ret
      exact ⟨ret_bool (by rw [HV.out]), rfl⟩
  · have HV := Lib.hid (show fitsB n = false from decide_eq_false fun h => h1 h.1)
    go_enter Try.func40, Try.ntmps40
    go_wp2
    go_ret
    exact ⟨ret_bool (by rw [HV.out]), rfl⟩

set_option maxHeartbeats 400000 in
theorem of_yes {n m : Int} (h1 : -4503599627370496 ≤ n) (h2 : n ≤ 4503599627370496) (h3 : -4503599627370496 ≤ m) (h4 : m ≤ 4503599627370496) (w : World) :
    Calls Try.prog 36 #[.int .i64 n, .int .i64 m] w fun e w' => e = .returned (.tuple #[.complex .f64 (floatOfInt .f64 n) (floatOfInt .f64 m), .int .i64 0]) ∧ w = w' := by
  have F1 := Lib.hid (fits_any n w)
  have F2 := Lib.hid (fits_any m w)
  rw [show fitsB n = true from decide_eq_true ⟨h1, h2⟩] at F1
  rw [show fitsB m = true from decide_eq_true ⟨h3, h4⟩] at F2
  go_enter Try.func36, Try.ntmps36
  go_wp2_with fail
  refine F1.out.mono ?_
  rintro e w1 ⟨rfl, rfl⟩
  go_wp2_with fail
  refine F2.out.mono ?_
  rintro e w1 ⟨rfl, rfl⟩
  go_wp2_with fail
  go_ret2
  exact ⟨rfl, rfl⟩
set_option maxHeartbeats 400000 in
theorem of_no {n m : Int} (h : ¬ (-4503599627370496 ≤ n ∧ n ≤ 4503599627370496 ∧ -4503599627370496 ≤ m ∧ m ≤ 4503599627370496)) (w : World) :
    Calls Try.prog 36 #[.int .i64 n, .int .i64 m] w fun e w' => e = .returned (.tuple #[.complex .f64 0 0, .int .i64 3]) ∧ w = w' := by
  have F1 := Lib.hid (fits_any n w)
  have F2 := Lib.hid (fits_any m w)
  by_cases hn : -4503599627370496 ≤ n ∧ n ≤ 4503599627370496
  · have hm : ¬ (-4503599627370496 ≤ m ∧ m ≤ 4503599627370496) := fun hm => h ⟨hn.1, hn.2, hm⟩
    rw [show fitsB n = true from decide_eq_true hn] at F1
    rw [show fitsB m = false from decide_eq_false hm] at F2
    clear h hn hm
    go_enter Try.func36, Try.ntmps36
    go_wp2_with fail
    refine F1.out.mono ?_
    rintro e w1 ⟨rfl, rfl⟩
    go_wp2_with fail
    refine F2.out.mono ?_
    rintro e w1 ⟨rfl, rfl⟩
    go_wp2_with fail
    go_ret2
    exact ⟨rfl, rfl⟩
  · rw [show fitsB n = false from decide_eq_false hn] at F1
    clear h hn
    go_enter Try.func36, Try.ntmps36
    go_wp2_with fail
    refine F1.out.mono ?_
    rintro e w1 ⟨rfl, rfl⟩
    go_wp2_with fail
    go_ret2
    exact ⟨rfl, rfl⟩

theorem mul_bound {a b A B : Int} (h1 : -A ≤ a) (h2 : a ≤ A) (h3 : -B ≤ b) (h4 : b ≤ B) : -(A * B) ≤ a * b ∧ a * b ≤ A * B := by
  have hA : 0 ≤ A := by omega
  have hB : 0 ≤ B := by omega
  have e : (a * b).natAbs ≤ (A * B).natAbs := by
    rw [Int.natAbs_mul, Int.natAbs_mul]
    exact Nat.mul_le_mul (by omega) (by omega)
  have hAB : 0 ≤ A * B := Int.mul_nonneg hA hB
  omega
theorem mul_small {a b : Int} (h1 : -33554432 ≤ a) (h2 : a ≤ 33554432) (h3 : -33554432 ≤ b) (h4 : b ≤ 33554432) : -1125899906842624 ≤ a * b ∧ a * b ≤ 1125899906842624 := mul_bound h1 h2 h3 h4

/-- A constant of the text that is the float of a whole number. -/
theorem isAt_const {x : Nat} (n M : Int) (hx : floatOfInt .f64 n = x) (h0 : -M ≤ n) (h1 : n ≤ M) (hM : M ≤ 4503599627370496) : IsAt x n M := hx ▸ isAt_fl n h0 h1 hM

end Go.Proofs.Ytlhmfdklpjpnlaa
