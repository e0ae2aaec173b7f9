/- The walks of pack.Factor, away, Join, Part, Order, Worth, and of the reference's. -/
import Derived.Test.YtflkkgejcpaepaaPlaneSum
import Derived.Deep.QuietTactic
import Derived.BigQuiet
namespace Go.Proofs.Ytflkkgejcpaepaa
open Go.RowKit Punnet.Flt
set_option linter.unusedVariables false

/-- May it be a factor? -/
def facB (f : Int) : Bool := decide (2 ≤ f ∧ f ≤ 1000)
/-- Is it no more than 2^52 away from 0? -/
def nearB (n : Int) : Bool := decide (-4503599627370496 ≤ n ∧ n ≤ 4503599627370496)

theorem facB_true {f : Int} (h : facB f = true) : 2 ≤ f ∧ f ≤ 1000 := of_decide_eq_true h
theorem nearB_true {n : Int} : nearB n = true ↔ -4503599627370496 ≤ n ∧ n ≤ 4503599627370496 := decide_eq_true_iff
theorem nearB_false {n : Int} : nearB n = false ↔ n < -4503599627370496 ∨ 4503599627370496 < n := by
  unfold nearB; rw [decide_eq_false_iff_not]; omega

theorem factor_any (f : Int) (w : World) : Calls Try.prog 11 #[.int .i64 f] w fun e w' => e = .returned (.bool (facB f)) ∧ w = w' := by
  have H := Lib.hid (show facB f = (decide (2 ≤ f) && decide (f ≤ 1000)) by unfold facB; rw [Bool.decide_and])
  by_cases h1 : 2 ≤ f <;> by_cases h2 : f ≤ 1000
  all_goals
    go_enter Try.func11, Try.ntmps11
    go_wp2
    go_ret
    exact ⟨ret_bool (by rw [H.out]; simp <;> omega), rfl⟩
theorem refFactor_any (f : Int) (w : World) : Calls Try.prog 12 #[.int .i64 f] w fun e w' => e = .returned (.bool (facB f)) ∧ w = w' := by
  have H := Lib.hid (show facB f = (decide (2 ≤ f) && decide (f ≤ 1000)) by unfold facB; rw [Bool.decide_and])
  by_cases h1 : 1 < f <;> by_cases h2 : f < 1001
  all_goals
    go_enter Try.func12, Try.ntmps12
    go_wp2
    go_ret
    exact ⟨ret_bool (by rw [H.out]; simp <;> omega), rfl⟩
theorem away_any (n : Int) (w : World) : Calls Try.prog 21 #[.int .i64 n] w fun e w' => e = .returned (.bool (!nearB n)) ∧ w = w' := by
  have H := Lib.hid (show nearB n = (decide (-4503599627370496 ≤ n) && decide (n ≤ 4503599627370496)) by unfold nearB; rw [Bool.decide_and])
  by_cases h1 : n < -4503599627370496 <;> by_cases h2 : 4503599627370496 < n
  all_goals
    go_enter Try.func21, Try.ntmps21
    go_wp2
    go_ret
    exact ⟨ret_bool (by rw [H.out]; simp <;> omega), rfl⟩
theorem near_any (n : Int) (w : World) : Calls Try.prog 16 #[.int .i64 n] w fun e w' => e = .returned (.bool (nearB n)) ∧ w = w' := by
  have H := Lib.hid (show nearB n = (decide (-4503599627370496 ≤ n) && decide (n ≤ 4503599627370496)) by unfold nearB; rw [Bool.decide_and])
  by_cases h1 : n ≤ 4503599627370496 <;> by_cases h2 : -4503599627370496 ≤ n
  all_goals
    go_enter Try.func16, Try.ntmps16
    go_wp2
    go_ret
    exact ⟨ret_bool (by rw [H.out]; simp <;> omega), rfl⟩

/-- What units and packs come to, and the code. -/
def joinOf (u p f : Int) : Int × Int := if nearB (p * f) && nearB (u + p * f) then (u + p * f, 0) else (0, 3)

/-- The greatest number that, so many times, is no more than 2^52. -/
theorem most_iff {p f : Int} (hf : 1 ≤ f) : (-(4503599627370496 / f) ≤ p ∧ p ≤ 4503599627370496 / f) ↔ nearB (p * f) = true := by
  rw [nearB_true]
  have h1 : 4503599627370496 / f * f ≤ 4503599627370496 := Int.ediv_mul_le _ (by omega)
  have h2 : 4503599627370496 < (4503599627370496 / f + 1) * f := Int.lt_ediv_add_one_mul_self _ (by omega)
  generalize 4503599627370496 / f = q at *
  constructor
  · rintro ⟨a, b⟩
    have h3 : p * f ≤ q * f := Int.mul_le_mul_of_nonneg_right b (by omega)
    have h4 : -q * f ≤ p * f := Int.mul_le_mul_of_nonneg_right a (by omega)
    rw [Int.neg_mul] at h4
    omega
  · rintro ⟨a, b⟩
    constructor
    · rcases Int.lt_or_le p (-q) with h | h
      · have h3 : (q + 1) * f ≤ -p * f := Int.mul_le_mul_of_nonneg_right (by omega) (by omega)
        rw [Int.neg_mul] at h3
        omega
      · exact h
    · rcases Int.lt_or_le q p with h | h
      · have h3 : (q + 1) * f ≤ p * f := Int.mul_le_mul_of_nonneg_right (by omega) (by omega)
        omega
      · exact h
theorem most_bound (f : Int) (hf : 1 ≤ f) : 0 ≤ 4503599627370496 / f ∧ 4503599627370496 / f ≤ 4503599627370496 := by
  constructor
  · exact Int.ediv_nonneg (by omega) (by omega)
  · exact Int.ediv_le_self _ (by omega)

set_option maxHeartbeats 800000 in
theorem join_yes {a b : Nat} {u p : Int} (ha : IsAt a u 4503599627370496) (hb : IsAt b p 4503599627370496) {f : Int} (hf : facB f = true) (w : World) :
    Calls Try.prog 8 #[.complex .f64 a b, .int .i64 f] w fun e w' => e = .returned (.tuple #[.int .i64 (joinOf u p f).1, .int .i64 (joinOf u p f).2]) ∧ Below w.heap.size w w' := by
  have F := Lib.hid (factor_any f)
  rw [hf] at F
  obtain ⟨f1, f2⟩ := facB_true hf
  have P := Lib.hid (parts_yes ha hb)
  obtain ⟨b1, b2⟩ := ha.bound
  obtain ⟨b3, b4⟩ := hb.bound
  obtain ⟨b5, b6⟩ := mul_bound (a := f) (b := p) (A := 1000) (B := 4503599627370496) (by omega) (by omega) b3 b4
  have A := Lib.hid (away_any (u + f * p))
  have hm := most_iff (p := p) (f := f) (by omega)
  obtain ⟨b7, b8⟩ := most_bound f (by omega)
  have hcom : p * f = f * p := Int.mul_comm _ _
  have HJ := Lib.hid (show joinOf u p f = if nearB (f * p) && nearB (u + f * p) then (u + f * p, 0) else (0, 3) by unfold joinOf; rw [hcom])
  rw [hcom] at hm
  clear hf ha hb hcom
  have hq : ∃ q, 4503599627370496 / f = q := ⟨_, rfl⟩
  obtain ⟨q, hq⟩ := hq
  rw [hq] at hm b7 b8
  by_cases hn : -q ≤ p ∧ p ≤ q
  · rw [hm.1 hn] at HJ
    rw [Bool.true_and] at HJ
    obtain ⟨n1, n2⟩ := hn
    clear hm
    cases hk : nearB (u + f * p) with
    | true =>
      rw [hk] at A HJ
      clear hk
      go_enter Try.func8, Try.ntmps8
      go_wp2_with fail
      refine (F.out _).mono ?_
      rintro e w1 ⟨rfl, rfl⟩
      go_wp2_with fail
      refine (P.out _).mono ?_
      rintro e w1 ⟨rfl, hb1⟩
      go_wp2_with fail
      refine (A.out _).mono ?_
      rintro e w2 ⟨rfl, rfl⟩
      go_wp2_with fail
      go_ret2
      exact ⟨by rw [HJ.out]; rfl, hb1⟩
    | false =>
      rw [hk] at A HJ
      clear hk
      go_enter Try.func8, Try.ntmps8
      go_wp2_with fail
      refine (F.out _).mono ?_
      rintro e w1 ⟨rfl, rfl⟩
      go_wp2_with fail
      refine (P.out _).mono ?_
      rintro e w1 ⟨rfl, hb1⟩
      go_wp2_with fail
      refine (A.out _).mono ?_
      rintro e w2 ⟨rfl, rfl⟩
      go_wp2_with fail
      go_ret2
      exact ⟨by rw [HJ.out]; rfl, hb1⟩
  · have hk : nearB (f * p) = false := by
      rw [Bool.eq_false_iff]; exact fun h => hn (hm.2 h)
    rw [hk] at HJ
    have hn' : p < -q ∨ (-q ≤ p ∧ q < p) := by omega
    clear hm hk hn
    rcases hn' with n1 | ⟨n1, n2⟩
    all_goals
      go_enter Try.func8, Try.ntmps8
      go_wp2_with fail
      refine (F.out _).mono ?_
      rintro e w1 ⟨rfl, rfl⟩
      go_wp2_with fail
      refine (P.out _).mono ?_
      rintro e w1 ⟨rfl, hb1⟩
      go_wp2_with fail
      go_ret2
      exact ⟨by rw [HJ.out]; rfl, hb1⟩
set_option maxHeartbeats 400000 in
theorem join_form {a b : Nat} (h : (okB a 4503599627370496 && okB b 4503599627370496) = false) {f : Int} (hf : facB f = true) (w : World) :
    Calls Try.prog 8 #[.complex .f64 a b, .int .i64 f] w fun e w' => e = .returned (.tuple #[.int .i64 0, .int .i64 5]) ∧ Below w.heap.size w w' := by
  have F := Lib.hid (factor_any f)
  rw [hf] at F
  have P := Lib.hid (parts_no h)
  clear h hf
  go_enter Try.func8, Try.ntmps8
  go_wp2_with fail
  refine (F.out _).mono ?_
  rintro e w1 ⟨rfl, rfl⟩
  go_wp2_with fail
  refine (P.out _).mono ?_
  rintro e w1 ⟨rfl, hb1⟩
  go_wp2_with fail
  go_ret2
  exact ⟨rfl, hb1⟩
set_option maxHeartbeats 400000 in
theorem join_arg (a b : Nat) {f : Int} (hf : facB f = false) (w : World) :
    Calls Try.prog 8 #[.complex .f64 a b, .int .i64 f] w fun e w' => e = .returned (.tuple #[.int .i64 0, .int .i64 2]) ∧ Below w.heap.size w w' := by
  have F := Lib.hid (factor_any f)
  rw [hf] at F
  clear hf
  go_enter Try.func8, Try.ntmps8
  go_wp2_with fail
  refine (F.out _).mono ?_
  rintro e w1 ⟨rfl, rfl⟩
  go_wp2_with fail
  go_ret2
  exact ⟨rfl, Below.refl _ _⟩

/-- A number in packs: what is left, and the packs. -/
theorem part_facts (n : Int) {f : Int} (hf : 2 ≤ f) : ∃ r q : Int, n.tmod f = r ∧ n.tdiv f = q ∧ -f < r ∧ r < f ∧ ((r < 0 ∧ r + f = n % f ∧ q - 1 = n / f) ∨ (0 ≤ r ∧ r = n % f ∧ q = n / f)) := by
  have h1 := Int.emod_nonneg n (show f ≠ 0 by omega)
  have h2 := Int.emod_lt_of_pos n (show 0 < f by omega)
  rcases Int.le_total 0 n with h | h
  · refine ⟨n % f, n / f, Int.tmod_eq_emod_of_nonneg h, Int.tdiv_eq_ediv_of_nonneg h, by omega, h2, .inr ⟨h1, rfl, rfl⟩⟩
  · have e1 : n.tmod f = -((-n) % f) := by rw [← Int.tmod_eq_emod_of_nonneg (show 0 ≤ -n by omega), Int.neg_tmod]; omega
    have e2 : n.tdiv f = -((-n) / f) := by rw [← Int.tdiv_eq_ediv_of_nonneg (show 0 ≤ -n by omega), Int.neg_tdiv]; omega
    have h3 := Int.emod_nonneg (-n) (show f ≠ 0 by omega)
    have h4 := Int.emod_lt_of_pos (-n) (show 0 < f by omega)
    have h5 := Int.mul_ediv_add_emod n f
    have h6 := Int.mul_ediv_add_emod (-n) f
    refine ⟨_, _, e1, e2, by omega, by omega, ?_⟩
    generalize hr : (-n) % f = r at *
    generalize hq : (-n) / f = q at *
    rcases Int.le_iff_lt_or_eq.1 h3 with h7 | h7
    · left
      have hu := Int.ediv_emod_unique (a := n) (b := f) (r := f - r) (q := -q - 1) (by omega)
      have key := hu.2 ⟨by rw [Int.mul_sub, Int.mul_neg]; omega, by omega, by omega⟩
      exact ⟨by omega, by rw [key.2]; omega, by rw [key.1]⟩
    · right
      have hu := Int.ediv_emod_unique (a := n) (b := f) (r := 0) (q := -q) (by omega)
      have key := hu.2 ⟨by rw [Int.mul_neg]; omega, by omega, by omega⟩
      exact ⟨by omega, by rw [key.2]; omega, by rw [key.1]⟩
theorem part_bound {n f : Int} (hf : 2 ≤ f) (hf' : f ≤ 1000) (h1 : -4503599627370496 ≤ n) (h2 : n ≤ 4503599627370496) : 0 ≤ n % f ∧ n % f < f ∧ -4503599627370496 ≤ n / f ∧ n / f ≤ 4503599627370496 := by
  refine ⟨Int.emod_nonneg n (by omega), Int.emod_lt_of_pos n (by omega), ?_, ?_⟩
  · rw [Int.le_ediv_iff_mul_le (by omega)]
    have : -4503599627370496 * f ≤ -4503599627370496 * 1 := Int.mul_le_mul_of_nonpos_left (by omega) (by omega)
    omega
  · have : n / f < 4503599627370496 + 1 := by
      rw [Int.ediv_lt_iff_lt_mul (by omega)]
      have : (4503599627370496 + 1) * 1 ≤ (4503599627370496 + 1) * f := Int.mul_le_mul_of_nonneg_left (by omega) (by omega)
      omega
    omega

end Go.Proofs.Ytflkkgejcpaepaa
