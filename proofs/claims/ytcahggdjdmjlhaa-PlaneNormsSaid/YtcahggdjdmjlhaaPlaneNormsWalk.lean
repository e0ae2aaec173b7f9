/- The walk of the law PlaneNorms. -/
import Derived.Test.YtcahggdjdmjlhaaPlaneAwake
import Derived.Test.YtcahggdjdmjlhaaPlaneTurn
namespace Go.Proofs.Ytcahggdjdmjlhaa
open Go.RowKit Punnet.Flt
set_option linter.unusedVariables false

theorem turnP_norm (k : Nat) : ∀ p : Int × Int, (turnP k p).1 * (turnP k p).1 + (turnP k p).2 * (turnP k p).2 = p.1 * p.1 + p.2 * p.2 := by
  induction k with
  | zero => intro p; rfl
  | succ k ih => intro p; rw [turnP, ih]; simp only; rw [Int.neg_mul_neg]; omega
theorem norm_times (n m r s : Int) : (n * r - m * s) * (n * r - m * s) + (n * s + m * r) * (n * s + m * r) = (n * n + m * m) * (r * r + s * s) := by grind

set_option maxHeartbeats 2000000 in
theorem planeNorms_walk (a0 : Nat) (a1 : Nat) (a2 : Nat) (a3 : Nat) (a4 : Int) (w0 : (Lit.float .f64 a0).wf = true) (w1 : (Lit.float .f64 a1).wf = true) (w2 : (Lit.float .f64 a2).wf = true) (w3 : (Lit.float .f64 a3).wf = true) (w4 : (Lit.int .i64 a4).wf = true) (w : World) :
    Calls Try.prog 5 #[.float .f64 a0, .float .f64 a1, .float .f64 a2, .float .f64 a3, .int .i64 a4] w fun e w' => e = .returned (.bool true) ∧ Below w.heap.size w w' := by
  clear w0 w1 w2 w3 w4
  rcases both_cases a0 a1 33554432 with ⟨n, m, hn, hm⟩ | h
  · have N1 := Lib.hid (norm_yes hn hm)
    have R1 := Lib.hid (refParts_yes hn hm (by omega) (by omega))
    have T1 := Lib.hid (turn_yes hn.whole hm.whole a4)
    obtain ⟨c1, c2⟩ := hn.2
    obtain ⟨c3, c4⟩ := hm.2
    obtain ⟨b1, b2⟩ := mul_small c1 c2 c1 c2
    obtain ⟨b3, b4⟩ := mul_small c3 c4 c3 c4
    obtain ⟨d1, d2, d3, d4⟩ := turnP_bound (a4 % 4).toNat (p := (n, m)) (M := 33554432) c1 c2 c3 c4
    have hnorm := turnP_norm (a4 % 4).toNat (n, m)
    generalize turnP (a4 % 4).toNat (n, m) = X at *
    obtain ⟨x, y⟩ := X
    simp only at hnorm d1 d2 d3 d4 T1
    have hx := isAt_fl x d1 d2 (by omega)
    have hy := isAt_fl y d3 d4 (by omega)
    have N2 := Lib.hid (norm_yes hx hy)
    rw [hnorm] at N2
    clear hnorm hx hy d1 d2 d3 d4
    generalize floatOfInt .f64 x = fx at *
    generalize floatOfInt .f64 y = fy at *
    rcases both_cases a2 a3 1024 with ⟨r, s, hr, hs⟩ | h2
    · have R2 := Lib.hid (refParts_yes hr hs (by omega) (by omega))
      by_cases hb : -1024 ≤ n ∧ n ≤ 1024 ∧ -1024 ≤ m ∧ m ≤ 1024
      · obtain ⟨q1, q2, q3, q4⟩ := hb
        have T2 := Lib.hid (times_yes hn hm (hr.more (by omega)) (hs.more (by omega)))
        obtain ⟨g1, g2⟩ := hr.2
        obtain ⟨g3, g4⟩ := hs.2
        have i1 := mul_bound q1 q2 g1 g2
        have i2 := mul_bound q3 q4 g3 g4
        have i3 := mul_bound q1 q2 g3 g4
        have i4 := mul_bound q3 q4 g1 g2
        have N3 := Lib.hid (norm_yes (isAt_fl (n * r - m * s) (M := 33554432) (by omega) (by omega) (by omega)) (isAt_fl (n * s + m * r) (M := 33554432) (by omega) (by omega) (by omega)))
        rw [norm_times] at N3
        have j1 := mul_bound q1 q2 q1 q2
        have j2 := mul_bound q3 q4 q3 q4
        obtain ⟨j3, j4⟩ := mul_bound g1 g2 g1 g2
        obtain ⟨j5, j6⟩ := mul_bound g3 g4 g3 g4
        have k0 := mul_bound (a := n * n + m * m) (b := r * r + s * s) (A := 2097152) (B := 2097152) (by omega) (by omega) (by omega) (by omega)
        obtain ⟨k1, k2⟩ := k0
        clear hn hm hr hs i1 i2 i3 i4 j1 j2
        generalize floatOfInt .f64 (n * r - m * s) = gx at *
        generalize floatOfInt .f64 (n * s + m * r) = gy at *
        go_enter Try.func5, Try.ntmps5
        go_wp2_with fail
        refine (awake_any _).mono ?_
        rintro e w1 ⟨rfl, hb1⟩
        go_wp2_with fail
        refine (N1.out _).mono ?_
        rintro e w2 ⟨rfl, hb2⟩
        go_wp2_with fail
        refine (R1.out _).mono ?_
        rintro e w3 ⟨rfl, rfl⟩
        go_wp2_with fail
        refine (T1.out _).mono ?_
        rintro e w4 ⟨rfl, hb4⟩
        go_wp2_with fail
        refine (N2.out _).mono ?_
        rintro e w5 ⟨rfl, hb5⟩
        go_wp2_with fail
        refine (R2.out _).mono ?_
        rintro e w6 ⟨rfl, rfl⟩
        go_wp2_with fail
        refine (T2.out _).mono ?_
        rintro e w7 ⟨rfl, hb7⟩
        go_wp2_with fail
        refine (N3.out _).mono ?_
        rintro e w8 ⟨rfl, hb8⟩
        go_wp2_with fail
        go_ret
        exact ⟨rfl, by repeat (first | exact Below.refl _ _ | assumption | refine below_two ?_ (by assumption))⟩
      · clear hn hm hr hs
        have key : 1024 < n ∨ (n ≤ 1024 ∧ n < -1024) ∨ (-1024 ≤ n ∧ n ≤ 1024 ∧ 1024 < m) ∨ (-1024 ≤ n ∧ n ≤ 1024 ∧ m ≤ 1024 ∧ m < -1024) := by omega
        clear hb
        rcases key with h1 | ⟨h1, h2⟩ | ⟨h1, h2, h3⟩ | ⟨h1, h2, h3, h4⟩
        all_goals
          go_enter Try.func5, Try.ntmps5
          go_wp2_with fail
          refine (awake_any _).mono ?_
          rintro e w1 ⟨rfl, hb1⟩
          go_wp2_with fail
          refine (N1.out _).mono ?_
          rintro e w2 ⟨rfl, hb2⟩
          go_wp2_with fail
          refine (R1.out _).mono ?_
          rintro e w3 ⟨rfl, rfl⟩
          go_wp2_with fail
          refine (T1.out _).mono ?_
          rintro e w4 ⟨rfl, hb4⟩
          go_wp2_with fail
          refine (N2.out _).mono ?_
          rintro e w5 ⟨rfl, hb5⟩
          go_wp2_with fail
          refine (R2.out _).mono ?_
          rintro e w6 ⟨rfl, rfl⟩
          go_wp2_with fail
          go_ret
          exact ⟨rfl, by repeat (first | exact Below.refl _ _ | assumption | refine below_two ?_ (by assumption))⟩
    · have R2 := Lib.hid (refParts_no h2 (by omega) (by omega))
      clear hn hm h2
      go_enter Try.func5, Try.ntmps5
      go_wp2_with fail
      refine (awake_any _).mono ?_
      rintro e w1 ⟨rfl, hb1⟩
      go_wp2_with fail
      refine (N1.out _).mono ?_
      rintro e w2 ⟨rfl, hb2⟩
      go_wp2_with fail
      refine (R1.out _).mono ?_
      rintro e w3 ⟨rfl, rfl⟩
      go_wp2_with fail
      refine (T1.out _).mono ?_
      rintro e w4 ⟨rfl, hb4⟩
      go_wp2_with fail
      refine (N2.out _).mono ?_
      rintro e w5 ⟨rfl, hb5⟩
      go_wp2_with fail
      refine (R2.out _).mono ?_
      rintro e w6 ⟨rfl, rfl⟩
      go_wp2_with fail
      go_ret
      exact ⟨rfl, by repeat (first | exact Below.refl _ _ | assumption | refine below_two ?_ (by assumption))⟩
  · have N1 := Lib.hid (norm_no h)
    have R1 := Lib.hid (refParts_no h (by omega) (by omega))
    clear h
    go_enter Try.func5, Try.ntmps5
    go_wp2_with fail
    refine (awake_any _).mono ?_
    rintro e w1 ⟨rfl, hb1⟩
    go_wp2_with fail
    refine (N1.out _).mono ?_
    rintro e w2 ⟨rfl, hb2⟩
    go_wp2_with fail
    refine (R1.out _).mono ?_
    rintro e w3 ⟨rfl, rfl⟩
    go_wp2_with fail
    go_ret
    exact ⟨rfl, by repeat (first | exact Below.refl _ _ | assumption | refine below_two ?_ (by assumption))⟩
end Go.Proofs.Ytcahggdjdmjlhaa
