/- The walks of pack.Part, Order, and of the reference's Join, Part. -/
import Derived.Test.YtflkkgejcpaepaaPack
namespace Go.Proofs.Ytflkkgejcpaepaa
open Go.RowKit Punnet.Flt
set_option linter.unusedVariables false

set_option maxHeartbeats 800000 in
theorem part_yes {n f : Int} (hf : facB f = true) (hn : nearB n = true) (w : World) :
    Calls Try.prog 15 #[.int .i64 n, .int .i64 f] w fun e w' => e = .returned (.tuple #[.complex .f64 (floatOfInt .f64 (n % f)) (floatOfInt .f64 (n / f)), .int .i64 0]) ∧ Below w.heap.size w w' := by
  have F := Lib.hid (factor_any f)
  rw [hf] at F
  have A := Lib.hid (away_any n)
  rw [hn] at A
  obtain ⟨f1, f2⟩ := facB_true hf
  obtain ⟨n1, n2⟩ := nearB_true.1 hn
  obtain ⟨b1, b2, b3, b4⟩ := part_bound f1 f2 n1 n2
  have O := Lib.hid (of_yes (n := n % f) (m := n / f) (by omega) (by omega) b3 b4)
  obtain ⟨r, q, er, eq, r1, r2, hrq⟩ := part_facts n f1
  have hf0 : (f == 0) = false := beq_eq_false_iff_ne.2 (by omega)
  clear hf hn
  generalize floatOfInt .f64 (n % f) = x at *
  generalize floatOfInt .f64 (n / f) = y at *
  generalize n % f = R at *
  generalize n / f = Q at *
  rcases hrq with ⟨h1, h2, h3⟩ | ⟨h1, rfl, rfl⟩
  · go_enter Try.func15, Try.ntmps15
    go_wp2_with fail
    refine (F.out _).mono ?_
    rintro e w1 ⟨rfl, rfl⟩
    go_wp2_with fail
    refine (A.out _).mono ?_
    rintro e w1 ⟨rfl, rfl⟩
    go_wp2_with fail
    go_quiet (fail)
    go_wp2_with fail
    refine (O.out _).mono ?_
    rintro e w1 ⟨rfl, rfl⟩
    go_wp2_with fail
    go_ret2
    exact ⟨rfl, below_drewN (Below.refl _ _) _⟩
  · go_enter Try.func15, Try.ntmps15
    go_wp2_with fail
    refine (F.out _).mono ?_
    rintro e w1 ⟨rfl, rfl⟩
    go_wp2_with fail
    refine (A.out _).mono ?_
    rintro e w1 ⟨rfl, rfl⟩
    go_wp2_with fail
    go_quiet (fail)
    go_wp2_with fail
    refine (O.out _).mono ?_
    rintro e w1 ⟨rfl, rfl⟩
    go_wp2_with fail
    go_ret2
    exact ⟨rfl, below_drewN (Below.refl _ _) _⟩
set_option maxHeartbeats 400000 in
theorem part_no {n f : Int} (h : (facB f && nearB n) = false) (w : World) :
    Calls Try.prog 15 #[.int .i64 n, .int .i64 f] w fun e w' => e = .returned (.tuple #[.complex .f64 0 0, .int .i64 (if facB f then 3 else 2)]) ∧ Below w.heap.size w w' := by
  have F := Lib.hid (factor_any f)
  have A := Lib.hid (away_any n)
  cases hf : facB f with
  | false =>
    rw [hf] at F
    clear hf h
    go_enter Try.func15, Try.ntmps15
    go_wp2_with fail
    refine (F.out _).mono ?_
    rintro e w1 ⟨rfl, rfl⟩
    go_wp2_with fail
    go_ret2
    exact ⟨rfl, Below.refl _ _⟩
  | true =>
    rw [hf, Bool.true_and] at h
    rw [hf] at F
    rw [h] at A
    clear hf h
    go_enter Try.func15, Try.ntmps15
    go_wp2_with fail
    refine (F.out _).mono ?_
    rintro e w1 ⟨rfl, rfl⟩
    go_wp2_with fail
    refine (A.out _).mono ?_
    rintro e w1 ⟨rfl, rfl⟩
    go_wp2_with fail
    go_ret2
    exact ⟨rfl, Below.refl _ _⟩

set_option maxHeartbeats 800000 in
theorem refPart_yes {n f : Int} (hf : facB f = true) (hn : nearB n = true) (w : World) :
    Calls Try.prog 13 #[.int .i64 n, .int .i64 f] w fun e w' => e = .returned (.tuple #[.int .i64 (n % f), .int .i64 (n / f), .int .i64 0]) ∧ w = w' := by
  have F := Lib.hid (refFactor_any f)
  rw [hf] at F
  have A := Lib.hid (near_any n)
  rw [hn] at A
  obtain ⟨f1, f2⟩ := facB_true hf
  obtain ⟨n1, n2⟩ := nearB_true.1 hn
  obtain ⟨b1, b2, b3, b4⟩ := part_bound f1 f2 n1 n2
  obtain ⟨r, q, er, eq, r1, r2, hrq⟩ := part_facts n f1
  have hf0 : (f == 0) = false := beq_eq_false_iff_ne.2 (by omega)
  have hdm := Int.mul_ediv_add_emod n f
  have hmul : n / f * f = n - n % f := by rw [Int.mul_comm]; omega
  have hmul1 : (n / f + 1) * f = n - n % f + f := by rw [Int.add_mul, hmul]; omega
  clear hf hn hdm
  go_enter Try.func13, Try.ntmps13
  go_wp2_with fail
  refine (F.out _).mono ?_
  rintro e w1 ⟨rfl, rfl⟩
  go_wp2_with fail
  refine (A.out _).mono ?_
  rintro e w1 ⟨rfl, rfl⟩
  generalize hR : n % f = R at *
  generalize hQ : n / f = Q at *
  have HR := Lib.hid hR
  have HQ := Lib.hid hQ
  clear hR hQ
  go_wp2_with fail
  go_loop [7] (fun p => p = .int .i64 Q ∨ (p = .int .i64 (Q + 1) ∧ 0 < R)) (fun p => (intOf p - Q).toNat)
  case atStart =>
    rcases hrq with ⟨h1, h2, h3⟩ | ⟨h1, h2, h3⟩
    · exact .inr ⟨by rw [← h3]; congr 1; omega, by omega⟩
    · exact .inl (by rw [h3])
  case round =>
    rcases hrel with rfl | ⟨rfl, hpos⟩
    · clear hrq er eq
      have hb : 0 ≤ n - (n - R) := by omega
      go_wp2_with fail
      go_ret3
      exact ⟨by rw [HR.out, HQ.out]; exact ret3_i64 (by rw [show n - (n - R) = R by omega]), rfl⟩
    · clear hrq er eq
      have hb : n - (n - R + f) < 0 := by omega
      have hb2 : Q + 1 - 1 = Q := by omega
      go_wp2_with fail
      go_round
      case rel => exact .inl rfl
      case measure => simp [intOf]; omega
set_option maxHeartbeats 400000 in
theorem refPart_no {n f : Int} (h : (facB f && nearB n) = false) (w : World) :
    Calls Try.prog 13 #[.int .i64 n, .int .i64 f] w fun e w' => e = .returned (.tuple #[.int .i64 0, .int .i64 0, .int .i64 (if facB f then 3 else 2)]) ∧ w = w' := by
  have F := Lib.hid (refFactor_any f)
  have A := Lib.hid (near_any n)
  cases hf : facB f with
  | false =>
    rw [hf] at F
    clear hf h
    go_enter Try.func13, Try.ntmps13
    go_wp2_with fail
    refine (F.out _).mono ?_
    rintro e w1 ⟨rfl, rfl⟩
    go_wp2_with fail
    go_ret3
    exact ⟨rfl, rfl⟩
  | true =>
    rw [hf, Bool.true_and] at h
    rw [hf] at F
    rw [h] at A
    clear hf h
    go_enter Try.func13, Try.ntmps13
    go_wp2_with fail
    refine (F.out _).mono ?_
    rintro e w1 ⟨rfl, rfl⟩
    go_wp2_with fail
    refine (A.out _).mono ?_
    rintro e w1 ⟨rfl, rfl⟩
    go_wp2_with fail
    go_ret3
    exact ⟨rfl, rfl⟩

set_option maxHeartbeats 800000 in
theorem refJoin_yes {a b : Nat} {u p : Int} (ha : IsAt a u 4503599627370496) (hb : IsAt b p 4503599627370496) {f : Int} (hf : facB f = true) (w : World) :
    Calls Try.prog 9 #[.complex .f64 a b, .int .i64 f] w fun e w' => e = .returned (.tuple #[.int .i64 (joinOf u p f).1, .int .i64 (joinOf u p f).2]) ∧ w = w' := by
  have F := Lib.hid (refFactor_any f)
  rw [hf] at F
  obtain ⟨f1, f2⟩ := facB_true hf
  have P := Lib.hid (refParts_yes ha hb (by omega) (by omega))
  obtain ⟨b1, b2⟩ := ha.bound
  obtain ⟨b3, b4⟩ := hb.bound
  obtain ⟨b5, b6⟩ := mul_bound (a := p) (b := f) (A := 4503599627370496) (B := 1000) b3 b4 (by omega) (by omega)
  have A1 := Lib.hid (near_any (p * f))
  have A2 := Lib.hid (near_any (u + p * f))
  have HJ := Lib.hid (show joinOf u p f = if nearB (p * f) && nearB (u + p * f) then (u + p * f, 0) else (0, 3) from rfl)
  clear hf ha hb
  cases h1 : nearB (p * f) with
  | false =>
    rw [h1] at A1 HJ
    clear h1
    go_enter Try.func9, Try.ntmps9
    go_wp2_with fail
    refine (F.out _).mono ?_
    rintro e w1 ⟨rfl, rfl⟩
    go_wp2_with fail
    refine (P.out _).mono ?_
    rintro e w1 ⟨rfl, rfl⟩
    go_wp2_with fail
    refine (A1.out _).mono ?_
    rintro e w1 ⟨rfl, rfl⟩
    go_wp2_with fail
    go_ret2
    exact ⟨by rw [HJ.out]; rfl, rfl⟩
  | true =>
    rw [h1] at A1 HJ
    rw [Bool.true_and] at HJ
    clear h1
    cases h2 : nearB (u + p * f) with
    | false =>
      rw [h2] at A2 HJ
      clear h2
      go_enter Try.func9, Try.ntmps9
      go_wp2_with fail
      refine (F.out _).mono ?_
      rintro e w1 ⟨rfl, rfl⟩
      go_wp2_with fail
      refine (P.out _).mono ?_
      rintro e w1 ⟨rfl, rfl⟩
      go_wp2_with fail
      refine (A1.out _).mono ?_
      rintro e w1 ⟨rfl, rfl⟩
      go_wp2_with fail
      refine (A2.out _).mono ?_
      rintro e w1 ⟨rfl, rfl⟩
      go_wp2_with fail
      go_ret2
      exact ⟨by rw [HJ.out]; rfl, rfl⟩
    | true =>
      rw [h2] at A2 HJ
      clear h2
      go_enter Try.func9, Try.ntmps9
      go_wp2_with fail
      refine (F.out _).mono ?_
      rintro e w1 ⟨rfl, rfl⟩
      go_wp2_with fail
      refine (P.out _).mono ?_
      rintro e w1 ⟨rfl, rfl⟩
      go_wp2_with fail
      refine (A1.out _).mono ?_
      rintro e w1 ⟨rfl, rfl⟩
      go_wp2_with fail
      refine (A2.out _).mono ?_
      rintro e w1 ⟨rfl, rfl⟩
      go_wp2_with fail
      go_ret2
      exact ⟨by rw [HJ.out]; rfl, rfl⟩
set_option maxHeartbeats 400000 in
theorem refJoin_form {a b : Nat} (h : (okB a 4503599627370496 && okB b 4503599627370496) = false) {f : Int} (hf : facB f = true) (w : World) :
    Calls Try.prog 9 #[.complex .f64 a b, .int .i64 f] w fun e w' => e = .returned (.tuple #[.int .i64 0, .int .i64 5]) ∧ w = w' := by
  have F := Lib.hid (refFactor_any f)
  rw [hf] at F
  have P := Lib.hid (refParts_no h (by omega) (by omega))
  clear h hf
  go_enter Try.func9, Try.ntmps9
  go_wp2_with fail
  refine (F.out _).mono ?_
  rintro e w1 ⟨rfl, rfl⟩
  go_wp2_with fail
  refine (P.out _).mono ?_
  rintro e w1 ⟨rfl, rfl⟩
  go_wp2_with fail
  go_ret2
  exact ⟨rfl, rfl⟩
set_option maxHeartbeats 400000 in
theorem refJoin_arg (a b : Nat) {f : Int} (hf : facB f = false) (w : World) :
    Calls Try.prog 9 #[.complex .f64 a b, .int .i64 f] w fun e w' => e = .returned (.tuple #[.int .i64 0, .int .i64 2]) ∧ w = w' := by
  have F := Lib.hid (refFactor_any f)
  rw [hf] at F
  clear hf
  go_enter Try.func9, Try.ntmps9
  go_wp2_with fail
  refine (F.out _).mono ?_
  rintro e w1 ⟨rfl, rfl⟩
  go_wp2_with fail
  go_ret2
  exact ⟨rfl, rfl⟩

/-- Order where Join tells a number: that in order. -/
theorem order_yes {a b : Nat} {n f : Int} (J : ∀ w, Calls Try.prog 8 #[.complex .f64 a b, .int .i64 f] w fun e w' => e = .returned (.tuple #[.int .i64 n, .int .i64 0]) ∧ Below w.heap.size w w') (hf : facB f = true) (hn : nearB n = true) (w : World) :
    Calls Try.prog 10 #[.complex .f64 a b, .int .i64 f] w fun e w' => e = .returned (.tuple #[.complex .f64 (floatOfInt .f64 (n % f)) (floatOfInt .f64 (n / f)), .int .i64 0]) ∧ Below w.heap.size w w' := by
  have J := Lib.hid J
  have P := Lib.hid (part_yes hf hn)
  generalize floatOfInt .f64 (n % f) = x at *
  generalize floatOfInt .f64 (n / f) = y at *
  clear hf hn
  go_enter Try.func10, Try.ntmps10
  go_wp2_with fail
  refine (J.out _).mono ?_
  rintro e w1 ⟨rfl, hb1⟩
  go_wp2_with fail
  refine (P.out _).mono ?_
  rintro e w2 ⟨rfl, hb2⟩
  go_wp2_with fail
  go_ret2
  exact ⟨rfl, below_two hb1 hb2⟩
theorem order_no {a b : Nat} {n c f : Int} (J : ∀ w, Calls Try.prog 8 #[.complex .f64 a b, .int .i64 f] w fun e w' => e = .returned (.tuple #[.int .i64 n, .int .i64 c]) ∧ Below w.heap.size w w') (hc : c ≠ 0) (w : World) :
    Calls Try.prog 10 #[.complex .f64 a b, .int .i64 f] w fun e w' => e = .returned (.tuple #[.complex .f64 0 0, .int .i64 c]) ∧ Below w.heap.size w w' := by
  have J := Lib.hid J
  have hc' : (c != 0) = true := by simp [hc]
  clear hc
  go_enter Try.func10, Try.ntmps10
  go_wp2_with fail
  refine (J.out _).mono ?_
  rintro e w1 ⟨rfl, hb1⟩
  go_wp2_with fail
  go_ret2
  exact ⟨rfl, hb1⟩

end Go.Proofs.Ytflkkgejcpaepaa
