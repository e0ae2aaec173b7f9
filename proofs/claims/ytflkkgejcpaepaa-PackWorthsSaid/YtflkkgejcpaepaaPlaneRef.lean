/- The walks of the reference's part, Parts, Of, Fits. -/
import Derived.Test.YtflkkgejcpaepaaPlaneOf
namespace Go.Proofs.Ytflkkgejcpaepaa
open Go.RowKit Punnet.Flt
set_option linter.unusedVariables false

/-- A number within 2^52 of 0, cut towards 0; of any other one 0. -/
def cutOf (x : Nat) : Int := match unitOf x with
  | some u => if -4503599627370496 * K ≤ u ∧ u ≤ 4503599627370496 * K then u.tdiv K else 0
  | none => 0

theorem IsAt.cut {x : Nat} {n M : Int} (h : IsAt x n M) : cutOf x = n := by
  have hb := h.bound
  unfold cutOf
  rw [h.unit]
  simp only [tdiv_mul]
  rw [if_pos ⟨(mul_le _ _).2 hb.1, (mul_le _ _).2 hb.2⟩]

/-- What the reference's part is told of a float, and what it makes of it. -/
theorem part_cases (x : Nat) : (geB x 14064741636278059008 = false ∧ cutOf x = 0 ∧ ∀ M, okB x M = false) ∨ (geB x 14064741636278059008 = true ∧ leB x 4841369599423283200 = false ∧ cutOf x = 0 ∧ ∀ M, okB x M = false) ∨
    (geB x 14064741636278059008 = true ∧ leB x 4841369599423283200 = true ∧ floatToIntVal .f64 x .i64 = some (cutOf x) ∧ -4503599627370496 ≤ cutOf x ∧ cutOf x ≤ 4503599627370496 ∧
      ∀ M, okB x M = (eqB (floatOfInt .f64 (cutOf x)) x && decide (-M ≤ cutOf x) && decide (cutOf x ≤ M))) := by
  cases hx : unitOf x with
  | none =>
    have hf := not_within hx unit_least unit_most
    have hc : cutOf x = 0 := by unfold cutOf; rw [hx]
    cases hg : geB x 14064741636278059008 with
    | false => exact .inl ⟨rfl, hc, fun M => okB_none hx⟩
    | true => rw [hg, Bool.true_and] at hf; exact .inr (.inl ⟨rfl, hf, hc, fun M => okB_none hx⟩)
  | some u =>
    have h1 := geB_units hx unit_least
    have h2 := leB_units hx unit_most
    have hout : ¬ (-4503599627370496 * K ≤ u ∧ u ≤ 4503599627370496 * K) → cutOf x = 0 ∧ ∀ M, okB x M = false := by
      intro h
      refine ⟨by unfold cutOf; rw [hx]; simp only; rw [if_neg h], fun M => ?_⟩
      rw [Bool.eq_false_iff]
      intro ho
      obtain ⟨n, hn⟩ := okB_iff.1 ho
      have hu := hn.unit
      rw [hx] at hu
      injection hu with hu
      subst hu
      exact h ⟨(mul_le _ _).2 hn.bound.1, (mul_le _ _).2 hn.bound.2⟩
    by_cases c1 : -4503599627370496 * K ≤ u
    · by_cases c2 : u ≤ 4503599627370496 * K
      · have hc : cutOf x = u.tdiv K := by unfold cutOf; rw [hx]; simp only; rw [if_pos ⟨c1, c2⟩]
        have hb := tdiv_bound c1 c2
        have ht : floatToIntVal .f64 x .i64 = some (u.tdiv K) := by
          have ht : (FloatKind.f64.decode x).toInt .zero = some (u.tdiv K) := toInt_units hx
          unfold floatToIntVal
          rw [ht]
          simp only
          rw [if_pos]
          show -9223372036854775808 ≤ u.tdiv K ∧ u.tdiv K ≤ 9223372036854775807
          omega
        rw [hc]
        refine .inr (.inr ⟨by rw [h1, decide_eq_true c1], by rw [h2, decide_eq_true c2], ht, hb.1, hb.2, fun M => ?_⟩)
        have he : eqB (floatOfInt .f64 (u.tdiv K)) x = decide (u.tdiv K * K = u) := eqB_units (ofInt_units (u.tdiv K) (by omega)) hx
        rw [he]
        by_cases ho : okB x M = true
        · obtain ⟨n, hn⟩ := okB_iff.1 ho
          have hu := hn.unit
          rw [hx] at hu
          injection hu with hu
          subst hu
          rw [ho, tdiv_mul, decide_eq_true rfl, decide_eq_true hn.2.1, decide_eq_true hn.2.2]; rfl
        · rw [Bool.not_eq_true] at ho
          rw [ho]
          symm
          rw [Bool.and_eq_false_iff, Bool.and_eq_false_iff, decide_eq_false_iff_not, decide_eq_false_iff_not, decide_eq_false_iff_not]
          by_cases e : u.tdiv K * K = u
          · by_cases e2 : -M ≤ u.tdiv K
            · right
              intro e3
              rw [Bool.eq_false_iff] at ho
              exact ho (okB_iff.2 ⟨u.tdiv K, wholeOf_some.2 ⟨by rw [hx, e], hb.1, hb.2⟩, e2, e3⟩)
            · exact .inl (.inr e2)
          · exact .inl (.inl e)
      · obtain ⟨a, b⟩ := hout (fun h => c2 h.2)
        exact .inr (.inl ⟨by rw [h1, decide_eq_true c1], by rw [h2, decide_eq_false c2], a, b⟩)
    · obtain ⟨a, b⟩ := hout (fun h => c1 h.1)
      exact .inl ⟨by rw [h1, decide_eq_false c1], a, b⟩

theorem ret2_ib {a b : Int} {c d : Bool} (h : a = b) (h' : c = d) : Ending.returned (.tuple #[.int .i64 a, .bool c]) = .returned (.tuple #[.int .i64 b, .bool d]) := by rw [h, h']

set_option maxHeartbeats 800000 in
theorem part_any (x : Nat) (M : Int) (w : World) (hM : 0 ≤ M) (hM' : M ≤ 4503599627370496) :
    Calls Try.prog 25 #[.float .f64 x, .int .i64 M] w fun e w' => e = .returned (.tuple #[.int .i64 (cutOf x), .bool (okB x M)]) ∧ w = w' := by
  obtain ⟨o1, e1, g⟩ : ∃ o, FloatKind.f64.format.order x 14064741636278059008 = o ∧ geB x 14064741636278059008 = (o == some .gt || o == some .eq) := ⟨_, rfl, rfl⟩
  obtain ⟨o2, e2, l⟩ : ∃ o, FloatKind.f64.format.order x 4841369599423283200 = o ∧ leB x 4841369599423283200 = (o == some .lt || o == some .eq) := ⟨_, rfl, rfl⟩
  rcases part_cases x with ⟨h1, h2, h3⟩ | ⟨h1, h2, h3, h4⟩ | ⟨h1, h2, h3, b1, b2, h4⟩
  · rw [g] at h1
    have HV := Lib.hid (h3 M)
    have HC := Lib.hid h2
    clear g l h2 h3
    go_enter Try.func25, Try.ntmps25
    go_wp2
    go_ret2
    exact ⟨by rw [HV.out, HC.out]; rfl, rfl⟩
  · rw [g] at h1
    rw [l] at h2
    have HV := Lib.hid (h4 M)
    have HC := Lib.hid h3
    clear g l h3 h4
    go_enter Try.func25, Try.ntmps25
    go_wp2
    go_ret2
    exact ⟨by rw [HV.out, HC.out]; rfl, rfl⟩
  · rw [g] at h1
    rw [l] at h2
    have hv := h4 M
    have hcv := fun w => run_convert_float_int (P := Try.prog) w 22 2 .f64 .i64 x (cutOf x) (by kernel_rfl) Try.underlying2 h3
    clear g l h3 h4
    generalize cutOf x = n at *
    obtain ⟨o3, e3, q⟩ : ∃ o, FloatKind.f64.format.order (floatOfInt .f64 n) x = o ∧ eqB (floatOfInt .f64 n) x = (o == some .eq) := ⟨_, rfl, rfl⟩
    rw [q] at hv
    clear q
    have HV := Lib.hid hv
    clear hv
    cases h5 : (o3 == some .eq) with
    | false =>
      have HV2 := Lib.hid (show okB x M = false by rw [HV.out, h5]; rfl)
      clear HV
      go_enter Try.func25, Try.ntmps25
      go_wp2
      go_ret2
      exact ⟨ret2_ib rfl (by rw [HV2.out]), rfl⟩
    | true =>
      by_cases c1 : -M ≤ n
      · by_cases c2 : n ≤ M
        · have HV2 := Lib.hid (show okB x M = true by rw [HV.out, h5, decide_eq_true c1, decide_eq_true c2]; rfl)
          clear HV
          go_enter Try.func25, Try.ntmps25
          go_wp2
          go_ret2
          exact ⟨ret2_ib rfl (by rw [HV2.out]), rfl⟩
        · have HV2 := Lib.hid (show okB x M = false by rw [HV.out, h5, decide_eq_true c1, decide_eq_false c2]; rfl)
          clear HV
          go_enter Try.func25, Try.ntmps25
          go_wp2
          go_ret2
          exact ⟨ret2_ib rfl (by rw [HV2.out]), rfl⟩
      · have HV2 := Lib.hid (show okB x M = false by rw [HV.out, h5, decide_eq_false c1]; rfl)
        clear HV
        go_enter Try.func25, Try.ntmps25
        go_wp2
        go_ret2
        exact ⟨ret2_ib rfl (by rw [HV2.out]), rfl⟩

set_option maxHeartbeats 400000 in
theorem refParts_yes {a b : Nat} {n m M : Int} (ha : IsAt a n M) (hb : IsAt b m M) (hM : 0 ≤ M) (hM' : M ≤ 4503599627370496) (w : World) :
    Calls Try.prog 22 #[.complex .f64 a b, .int .i64 M] w fun e w' => e = .returned (.tuple #[.int .i64 n, .int .i64 m, .bool true]) ∧ w = w' := by
  have H1 := Lib.hid (part_any a M w hM hM')
  have H2 := Lib.hid (part_any b M w hM hM')
  rw [ha.ok, ha.cut] at H1
  rw [hb.ok, hb.cut] at H2
  clear ha hb
  go_enter Try.func22, Try.ntmps22
  go_wp2_with fail
  refine H1.out.mono ?_
  rintro e w1 ⟨rfl, rfl⟩
  go_wp2_with fail
  refine H2.out.mono ?_
  rintro e w1 ⟨rfl, rfl⟩
  go_wp2_with fail
  go_ret3
  exact ⟨rfl, rfl⟩
set_option maxHeartbeats 400000 in
theorem refParts_no {a b : Nat} {M : Int} (h : (okB a M && okB b M) = false) (hM : 0 ≤ M) (hM' : M ≤ 4503599627370496) (w : World) :
    Calls Try.prog 22 #[.complex .f64 a b, .int .i64 M] w fun e w' => e = .returned (.tuple #[.int .i64 0, .int .i64 0, .bool false]) ∧ w = w' := by
  have H1 := Lib.hid (part_any a M w hM hM')
  have H2 := Lib.hid (part_any b M w hM hM')
  generalize cutOf a = n at *
  generalize cutOf b = m at *
  cases h1 : okB a M with
  | false =>
    rw [h1] at H1
    clear h h1
    go_enter Try.func22, Try.ntmps22
    go_wp2_with fail
    refine H1.out.mono ?_
    rintro e w1 ⟨rfl, rfl⟩
    go_wp2_with fail
    refine H2.out.mono ?_
    rintro e w1 ⟨rfl, rfl⟩
    go_wp2_with fail
    go_ret3
    exact ⟨rfl, rfl⟩
  | true =>
    rw [h1, Bool.true_and] at h
    rw [h1] at H1
    rw [h] at H2
    clear h h1
    go_enter Try.func22, Try.ntmps22
    go_wp2_with fail
    refine H1.out.mono ?_
    rintro e w1 ⟨rfl, rfl⟩
    go_wp2_with fail
    refine H2.out.mono ?_
    rintro e w1 ⟨rfl, rfl⟩
    go_wp2_with fail
    go_ret3
    exact ⟨rfl, rfl⟩

theorem refOf_any (n m : Int) (w : World) :
    Calls Try.prog 14 #[.int .i64 n, .int .i64 m] w fun e w' => e = .returned (.complex .f64 (floatOfInt .f64 n) (floatOfInt .f64 m)) ∧ w = w' := by
  go_enter Try.func14, Try.ntmps14
  go_wp2
  go_ret
  exact ⟨rfl, rfl⟩


end Go.Proofs.Ytflkkgejcpaepaa
