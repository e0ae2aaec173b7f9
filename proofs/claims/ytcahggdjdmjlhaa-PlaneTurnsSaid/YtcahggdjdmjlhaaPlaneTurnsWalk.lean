/- The walk of the law PlaneTurns. -/
import Derived.Test.YtcahggdjdmjlhaaPlaneAwake
import Derived.Test.YtcahggdjdmjlhaaPlaneTurn
namespace Go.Proofs.Ytcahggdjdmjlhaa
open Go.RowKit Punnet.Flt
set_option linter.unusedVariables false

theorem turnP_four (p : Int × Int) : turnP 4 p = p := by
  obtain ⟨x, y⟩ := p
  show (- -x, - -y) = (x, y)
  rw [Int.neg_neg, Int.neg_neg]
theorem turnP_add (j k : Nat) (p : Int × Int) : turnP j (turnP k p) = turnP (k + j) p := by
  induction k generalizing p with
  | zero => rw [Nat.zero_add]; rfl
  | succ k ih => rw [turnP, ih, Nat.succ_add]; rfl
theorem turnP_back (t : Int) (p : Int × Int) : turnP (wrap64 (-t) % 4).toNat (turnP (t % 4).toNat p) = p := by
  rw [turnP_add]
  have h : (t % 4).toNat + (wrap64 (-t) % 4).toNat = 0 ∨ (t % 4).toNat + (wrap64 (-t) % 4).toNat = 4 := by
    simp only [wrap64]; omega
  rcases h with h | h
  · rw [h]; rfl
  · rw [h]; exact turnP_four p

set_option maxHeartbeats 1000000 in
theorem planeTurns_walk (a0 : Nat) (a1 : Nat) (a2 : Int) (w0 : (Lit.float .f64 a0).wf = true) (w1 : (Lit.float .f64 a1).wf = true) (w2 : (Lit.int .i64 a2).wf = true) (w : World) :
    Calls Try.prog 4 #[.float .f64 a0, .float .f64 a1, .int .i64 a2] w fun e w' => e = .returned (.bool true) ∧ Below w.heap.size w w' := by
  clear w0 w1
  obtain ⟨l2, u2⟩ := i64_of_wf w2
  clear w2
  have WH := Lib.hid (whole_any a0 a1)
  rcases both_cases a0 a1 4503599627370496 with ⟨n, m, hn, hm⟩ | h
  · have T1 := Lib.hid (turn_yes hn hm a2)
    have R1 := Lib.hid (refTurn_yes hn hm a2)
    have U := turnP_back a2 (n, m)
    obtain ⟨c1, c2⟩ := hn.bound
    obtain ⟨c3, c4⟩ := hm.bound
    obtain ⟨d1, d2, d3, d4⟩ := turnP_bound (a2 % 4).toNat (p := (n, m)) (M := 4503599627370496) c1 c2 c3 c4
    generalize turnP (a2 % 4).toNat (n, m) = X at *
    obtain ⟨x, y⟩ := X
    have hx := isAt_fl x d1 d2 (by omega)
    have hy := isAt_fl y d3 d4 (by omega)
    have U1 := Lib.hid (turn_yes hx hy (wrap64 (-a2)))
    rw [U] at U1
    have V := Lib.hid (turn_yes hn hm 4)
    rw [show (4 : Int) % 4 = 0 from rfl] at V
    have P1 := Lib.hid (turn_yes hn hm 1)
    rw [show (1 : Int) % 4 = 1 from rfl] at P1
    have o1 := hx.same hx
    have o2 := hy.same hy
    have fn := isAt_fl n c1 c2 (by omega)
    have fm := isAt_fl m c3 c4 (by omega)
    have fk := isAt_fl (-m) (M := 4503599627370496) (by omega) (by omega) (by omega)
    have o3 := fn.same hn
    have o4 := fm.same hm
    have o5 := fn.same fn
    have o6 := fk.same fk
    have key : ∃ (q1 q2 : Nat) (j : Int), Hid (∀ w, Calls Try.prog 17 #[.complex .f64 a0 a1, .complex .f64 0 4607182418800017408] w fun e w' => e = .returned (.tuple #[.complex .f64 q1 q2, .int .i64 j]) ∧ Below w.heap.size w w') ∧ ((q1 = floatOfInt .f64 (-m) ∧ q2 = floatOfInt .f64 n ∧ j = 0) ∨ j = 5) := by
      rcases both_cases a0 a1 33554432 with ⟨n', m', hn', hm'⟩ | h
      · have e1 : n' = n := by have := hn'.1; rw [hn.1] at this; injection this with this; exact this.symm
        have e2 : m' = m := by have := hm'.1; rw [hm.1] at this; injection this with this; exact this.symm
        subst e1 e2
        have hz : IsAt 0 0 33554432 := isAt_zero.more (by omega)
        have k1 : IsAt 4607182418800017408 1 33554432 := isAt_const 1 _ (by decide +kernel) (by decide) (by decide) (by decide)
        have T := times_yes hn' hm' hz k1
        rw [show n' * 0 - m' * 1 = -m' by omega, show n' * 1 + m' * 0 = n' by omega] at T
        exact ⟨_, _, _, T, .inl ⟨rfl, rfl, rfl⟩⟩
      · exact ⟨0, 0, 5, times_no (by rw [h]; rfl), .inr rfl⟩
    obtain ⟨q1, q2, j, Q, hq⟩ := key
    have e0 : turnP 0 (n, m) = (n, m) := rfl
    have e1 : turnP 1 (n, m) = (-m, n) := rfl
    rw [show (0 : Int).toNat = 0 from rfl, e0] at V
    rw [show (1 : Int).toNat = 1 from rfl, e1] at P1
    simp only at T1 R1 U1 V P1
    clear hn hm U hx hy fn fm fk e0 e1 c1 c2 c3 c4 d1 d2 d3 d4
    generalize floatOfInt .f64 x = fx at *
    generalize floatOfInt .f64 y = fy at *
    generalize floatOfInt .f64 n = fn at *
    generalize floatOfInt .f64 m = fm at *
    generalize floatOfInt .f64 (-m) = fk at *
    rcases hq with ⟨rfl, rfl, rfl⟩ | rfl
    all_goals
      go_enter Try.func4, Try.ntmps4
      go_wp2_with fail
      refine (awake_any _).mono ?_
      rintro e w1 ⟨rfl, hb1⟩
      go_wp2_with fail
      refine (T1.out _).mono ?_
      rintro e w2 ⟨rfl, hb2⟩
      go_wp2_with fail
      refine (R1.out _).mono ?_
      rintro e w3 ⟨rfl, rfl⟩
      go_wp2_with fail
      refine (U1.out _).mono ?_
      rintro e w4 ⟨rfl, hb4⟩
      go_wp2_with fail
      refine (V.out _).mono ?_
      rintro e w5 ⟨rfl, hb5⟩
      go_wp2_with fail
      refine (P1.out _).mono ?_
      rintro e w6 ⟨rfl, hb6⟩
      go_wp2_with fail
      refine (Q.out _).mono ?_
      rintro e w7 ⟨rfl, hb7⟩
      go_wp2_with fail
      go_ret
      exact ⟨rfl, by repeat (first | exact Below.refl _ _ | assumption | refine below_two ?_ (by assumption))⟩
  · rw [h] at WH
    have T1 := Lib.hid (turn_no h a2)
    have R1 := Lib.hid (refTurn_no h a2)
    have o := isAt_zero.same isAt_zero
    clear h
    go_enter Try.func4, Try.ntmps4
    go_wp2_with fail
    refine (awake_any _).mono ?_
    rintro e w1 ⟨rfl, hb1⟩
    go_wp2_with fail
    refine (T1.out _).mono ?_
    rintro e w2 ⟨rfl, hb2⟩
    go_wp2_with fail
    refine (R1.out _).mono ?_
    rintro e w3 ⟨rfl, rfl⟩
    go_wp2_with fail
    refine (WH.out _).mono ?_
    rintro e w4 ⟨rfl, hb4⟩
    go_wp2_with fail
    go_ret
    exact ⟨rfl, by repeat (first | exact Below.refl _ _ | assumption | refine below_two ?_ (by assumption))⟩
end Go.Proofs.Ytcahggdjdmjlhaa
