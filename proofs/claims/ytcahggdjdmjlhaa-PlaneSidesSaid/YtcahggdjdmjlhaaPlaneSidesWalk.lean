/- The walk of the law PlaneSides. -/
import Derived.Test.YtcahggdjdmjlhaaPlaneAwake
import Derived.Test.YtcahggdjdmjlhaaPlaneTurn
import Derived.Test.YtcahggdjdmjlhaaPlaneSide
import Derived.Test.YtcahggdjdmjlhaaFloatNeg
namespace Go.Proofs.Ytcahggdjdmjlhaa
open Go.RowKit Punnet.Flt
set_option linter.unusedVariables false

theorem turnP_dot (k : Nat) : ∀ p q : Int × Int, (turnP k q).1 * (turnP k p).1 + (turnP k q).2 * (turnP k p).2 = q.1 * p.1 + q.2 * p.2 := by
  induction k with
  | zero => intro p q; rfl
  | succ k ih => intro p q; rw [turnP, turnP, ih]; simp only; rw [Int.neg_mul_neg]; omega
theorem sideOf_neg (k off : Int) : sideOf (-k) (-off) = -sideOf k off := by
  unfold sideOf
  by_cases h1 : off < k
  · rw [if_pos h1, if_neg (by omega), if_pos (by omega)]
  · by_cases h2 : k < off
    · rw [if_neg h1, if_pos h2, if_pos (by omega)]; rfl
    · rw [if_neg h1, if_neg h2, if_neg (by omega), if_neg (by omega)]; rfl
theorem sideOf_bound (k off : Int) : -1 ≤ sideOf k off ∧ sideOf k off ≤ 1 := by
  unfold sideOf
  split
  · omega
  · split <;> omega
theorem IsAt.flip {x : Nat} {n M : Int} (h : IsAt x n M) (hx : (Lit.float .f64 x).wf = true) : IsAt (Op.negFloat .f64 x) (-n) M := by
  have hlt : x < 18446744073709551616 := by simpa [Lit.wf] using hx
  have hb := h.bound
  have hu : unitOf (Op.negFloat .f64 x) = some (-(n * K)) := unit_flip hlt h.unit
  rw [← Int.neg_mul] at hu
  exact ⟨wholeOf_some.2 ⟨hu, by omega, by omega⟩, by have := h.2; omega, by have := h.2; omega⟩

set_option maxHeartbeats 1000000 in
theorem planeSides_walk (a0 : Nat) (a1 : Nat) (a2 : Int) (a3 : Nat) (a4 : Nat) (a5 : Int) (w0 : (Lit.float .f64 a0).wf = true) (w1 : (Lit.float .f64 a1).wf = true) (w2 : (Lit.int .i64 a2).wf = true) (w3 : (Lit.float .f64 a3).wf = true) (w4 : (Lit.float .f64 a4).wf = true) (w5 : (Lit.int .i64 a5).wf = true) (w : World) :
    Calls Try.prog 7 #[.float .f64 a0, .float .f64 a1, .int .i64 a2, .float .f64 a3, .float .f64 a4, .int .i64 a5] w fun e w' => e = .returned (.bool true) ∧ Below w.heap.size w w' := by
  obtain ⟨l2, u2⟩ := i64_of_wf w2
  clear w2 w3 w4 w5
  have hneg : ∀ w, (Op.unary .neg (.complex .f64 a0 a1)).run Try.prog w = .ok (.complex .f64 (Op.negFloat .f64 a0) (Op.negFloat .f64 a1)) w := fun _ => rfl
  rcases both_cases a0 a1 33554432 with ⟨n, m, hn, hm⟩ | h
  · rcases both_cases a3 a4 33554432 with ⟨n', m', hn', hm'⟩ | h
    · have S1 := Lib.hid (side_yes hn hm hn' hm' a2)
      have R1 := Lib.hid (refSide_yes hn hm hn' hm' a2)
      rw [Int.mul_comm n n', Int.mul_comm m m'] at R1
      have T1 := Lib.hid (turn_yes hn.whole hm.whole a5)
      have T2 := Lib.hid (turn_yes hn'.whole hm'.whole a5)
      obtain ⟨d1, d2, d3, d4⟩ := turnP_bound (a5 % 4).toNat (p := (n, m)) (M := 33554432) hn.2.1 hn.2.2 hm.2.1 hm.2.2
      obtain ⟨e1, e2, e3, e4⟩ := turnP_bound (a5 % 4).toNat (p := (n', m')) (M := 33554432) hn'.2.1 hn'.2.2 hm'.2.1 hm'.2.2
      have S2 := Lib.hid (side_yes (isAt_fl _ d1 d2 (by omega)) (isAt_fl _ d3 d4 (by omega)) (isAt_fl _ e1 e2 (by omega)) (isAt_fl _ e3 e4 (by omega)) a2)
      rw [turnP_dot] at S2
      have S3 := Lib.hid (side_yes (hn.flip w0) (hm.flip w1) hn' hm' (-a2))
      rw [show n' * -n + m' * -m = -(n' * n + m' * m) by rw [Int.mul_neg, Int.mul_neg]; omega, sideOf_neg] at S3
      simp only at S2
      obtain ⟨k1, k2⟩ := sideOf_bound (n' * n + m' * m) a2
      clear hn hm hn' hm' d1 d2 d3 d4 e1 e2 e3 e4 w0 w1
      generalize sideOf (n' * n + m' * m) a2 = S at *
      generalize floatOfInt .f64 (turnP (a5 % 4).toNat (n, m)).1 = x1 at *
      generalize floatOfInt .f64 (turnP (a5 % 4).toNat (n, m)).2 = x2 at *
      generalize floatOfInt .f64 (turnP (a5 % 4).toNat (n', m')).1 = y1 at *
      generalize floatOfInt .f64 (turnP (a5 % 4).toNat (n', m')).2 = y2 at *
      generalize Op.negFloat .f64 a0 = z1 at *
      generalize Op.negFloat .f64 a1 = z2 at *
      by_cases ho : a2 < -1152921504606846976
      · clear S2 S3 T1 T2
        go_enter Try.func7, Try.ntmps7
        go_wp2_with fail
        refine (awake_any _).mono ?_
        rintro e w1 ⟨rfl, hb1⟩
        go_wp2_with fail
        refine (S1.out _).mono ?_
        rintro e w2 ⟨rfl, hb2⟩
        go_wp2_with fail
        refine (R1.out _).mono ?_
        rintro e w3 ⟨rfl, rfl⟩
        go_wp2_with fail
        go_ret
        exact ⟨rfl, by repeat (first | exact Below.refl _ _ | assumption | refine below_two ?_ (by assumption))⟩
      · have ho' : -1152921504606846976 ≤ a2 := by omega
        clear ho
        go_enter Try.func7, Try.ntmps7
        go_wp2_with fail
        refine (awake_any _).mono ?_
        rintro e w1 ⟨rfl, hb1⟩
        go_wp2_with fail
        refine (S1.out _).mono ?_
        rintro e w2 ⟨rfl, hb2⟩
        go_wp2_with fail
        refine (R1.out _).mono ?_
        rintro e w3 ⟨rfl, rfl⟩
        go_wp2_with fail
        refine (T1.out _).mono ?_
        rintro e w4 ⟨rfl, hb4⟩
        go_wp2_with fail
        refine (T2.out _).mono ?_
        rintro e w5 ⟨rfl, hb5⟩
        go_wp2_with fail
        refine (S2.out _).mono ?_
        rintro e w6 ⟨rfl, hb6⟩
        go_wp2_with fail
        refine (S3.out _).mono ?_
        rintro e w7 ⟨rfl, hb7⟩
        go_wp2_with fail
        go_ret
        exact ⟨rfl, by repeat (first | exact Below.refl _ _ | assumption | refine below_two ?_ (by assumption))⟩
    · have S1 := Lib.hid (side_no (a := a0) (b := a1) (c := a3) (d := a4) (by rw [h, Bool.and_false]) a2)
      have R1 := Lib.hid (refSide_no (a := a0) (b := a1) (c := a3) (d := a4) (by rw [h, Bool.and_false]) a2)
      clear h w0 w1
      go_enter Try.func7, Try.ntmps7
      go_wp2_with fail
      refine (awake_any _).mono ?_
      rintro e w1 ⟨rfl, hb1⟩
      go_wp2_with fail
      refine (S1.out _).mono ?_
      rintro e w2 ⟨rfl, hb2⟩
      go_wp2_with fail
      refine (R1.out _).mono ?_
      rintro e w3 ⟨rfl, rfl⟩
      go_wp2_with fail
      go_ret
      exact ⟨rfl, by repeat (first | exact Below.refl _ _ | assumption | refine below_two ?_ (by assumption))⟩
  · have S1 := Lib.hid (side_no (a := a0) (b := a1) (c := a3) (d := a4) (by rw [h]; rfl) a2)
    have R1 := Lib.hid (refSide_no (a := a0) (b := a1) (c := a3) (d := a4) (by rw [h]; rfl) a2)
    clear h w0 w1
    go_enter Try.func7, Try.ntmps7
    go_wp2_with fail
    refine (awake_any _).mono ?_
    rintro e w1 ⟨rfl, hb1⟩
    go_wp2_with fail
    refine (S1.out _).mono ?_
    rintro e w2 ⟨rfl, hb2⟩
    go_wp2_with fail
    refine (R1.out _).mono ?_
    rintro e w3 ⟨rfl, rfl⟩
    go_wp2_with fail
    go_ret
    exact ⟨rfl, by repeat (first | exact Below.refl _ _ | assumption | refine below_two ?_ (by assumption))⟩
end Go.Proofs.Ytcahggdjdmjlhaa
