/- Plain facts on floats of 64 bits that are whole numbers: what they stand for, how they are compared, cut and made of integers. No program is in sight here. -/
import Ieee.Arith
namespace Punnet.Flt
open Ieee

/-- The unit: every float of 64 bits is a multiple of 1 / K. -/
def far : Nat := 1074
theorem far_eq : far = 1074 := rfl
def K : Int := 2 ^ far
theorem K_pos : 0 < K := Int.pow_pos (by decide)

theorem read_eq (x : Nat) : double.read x =
    (if x % 9223372036854775808 < 4503599627370496 then Datum.number (x / 9223372036854775808 % 2 == 1) (x % 9223372036854775808) (-1074)
     else if x % 9223372036854775808 < 9218868437227405312 then .number (x / 9223372036854775808 % 2 == 1) (4503599627370496 + x % 9223372036854775808 % 4503599627370496) (-1074 + ((x % 9223372036854775808 / 4503599627370496 - 1 : Nat) : Int))
     else if x % 9223372036854775808 = 9218868437227405312 then .infinity (x / 9223372036854775808 % 2 == 1)
     else .nan (x / 9223372036854775808 % 2 == 1) (x % 9223372036854775808 - 9218868437227405312)) := rfl

theorem place_ge {x m : Nat} {s : Bool} {e : Int} (h : double.read x = .number s m e) : -1074 ≤ e := by
  rw [read_eq] at h
  split at h
  · injection h with _ _ h; omega
  · split at h
    · injection h with _ _ h; omega
    · split at h <;> cases h

theorem signed_eq (s : Bool) (m a : Nat) : signed s m a = (if s then -1 else 1) * ((m : Int) * 2 ^ a) := by
  have h : ((m <<< a : Nat) : Int) = (m : Int) * 2 ^ a := by rw [Nat.shiftLeft_eq]; simp
  unfold signed
  cases s <;> simp [h]
theorem signed_add (s : Bool) (m a b : Nat) : signed s m (a + b) = signed s m a * 2 ^ b := by
  rw [signed_eq, signed_eq, Int.pow_add, Int.mul_assoc, Int.mul_assoc]

/-- The number that a datum stands for, in units; none of what is no number. -/
def unitOf (x : Nat) : Option Int := match double.read x with
  | .number s m e => some (signed s m (e + 1074).toNat)
  | _ => none

theorem unitOf_number {x m : Nat} {s : Bool} {e : Int} (h : double.read x = .number s m e) : unitOf x = some (signed s m (e + 1074).toNat) := by
  rw [unitOf, h]
theorem number_of_unit {x : Nat} {u : Int} (h : unitOf x = some u) : ∃ s m e, double.read x = .number s m e ∧ -1074 ≤ e ∧ u = signed s m (e + 1074).toNat := by
  unfold unitOf at h
  cases hr : double.read x with
  | number s m e => rw [hr] at h; injection h with h; exact ⟨s, m, e, rfl, place_ge hr, h.symm⟩
  | infinity s => rw [hr] at h; cases h
  | nan s t => rw [hr] at h; cases h

theorem compare_scale (a b k : Int) (hk : 0 < k) : compare (a * k) (b * k) = compare a b := by
  simp only [compare, compareOfLessAndEq]
  have h1 : a * k < b * k ↔ a < b := ⟨fun h => Int.lt_of_mul_lt_mul_right h (Int.le_of_lt hk), fun h => Int.mul_lt_mul_of_pos_right h hk⟩
  have h2 : a * k = b * k ↔ a = b := ⟨fun h => Int.eq_of_mul_eq_mul_right (by omega) h, fun h => by rw [h]⟩
  simp only [h1, h2]

/-- Two numbers are compared as their units are. -/
theorem order_units {x y : Nat} {u v : Int} (hx : unitOf x = some u) (hy : unitOf y = some v) : double.order x y = some (compare u v) := by
  obtain ⟨s, m, i, hr, hi, rfl⟩ := number_of_unit hx
  obtain ⟨t, n, j, hr2, hj, rfl⟩ := number_of_unit hy
  rw [Format.order, hr, hr2, Datum.order]
  have e1 : (i + 1074).toNat = (i - min i j).toNat + (min i j + 1074).toNat := by omega
  have e2 : (j + 1074).toNat = (j - min i j).toNat + (min i j + 1074).toNat := by omega
  have hk : (0 : Int) < 2 ^ (min i j + 1074).toNat := Int.pow_pos (by decide)
  show some (compare (signed s m (i - min i j).toNat) (signed t n (j - min i j).toNat)) = _
  rw [e1, e2, signed_add, signed_add, compare_scale _ _ _ hk]

theorem compare_lt {a b : Int} (h : a < b) : compare a b = .lt := by simp [compare, compareOfLessAndEq, h]
theorem compare_eq (a : Int) : compare a a = .eq := by simp [compare, compareOfLessAndEq]
theorem compare_gt {a b : Int} (h : b < a) : compare a b = .gt := by
  have h1 : ¬ a < b := by omega
  have h2 : ¬ a = b := by omega
  simp [compare, compareOfLessAndEq, h1, h2]

theorem order_lt {x y : Nat} {u v : Int} (hx : unitOf x = some u) (hy : unitOf y = some v) (h : u < v) : double.order x y = some .lt := by rw [order_units hx hy, compare_lt h]
theorem order_eq {x y : Nat} {u : Int} (hx : unitOf x = some u) (hy : unitOf y = some u) : double.order x y = some .eq := by rw [order_units hx hy, compare_eq]
theorem order_gt {x y : Nat} {u v : Int} (hx : unitOf x = some u) (hy : unitOf y = some v) (h : v < u) : double.order x y = some .gt := by rw [order_units hx hy, compare_gt h]

/-- Is a float no less than another one, as '>=' tells? -/
def geB (x y : Nat) : Bool := double.order x y == some .gt || double.order x y == some .eq
def leB (x y : Nat) : Bool := double.order x y == some .lt || double.order x y == some .eq
def eqB (x y : Nat) : Bool := double.order x y == some .eq

theorem geB_units {x y : Nat} {u v : Int} (hx : unitOf x = some u) (hy : unitOf y = some v) : geB x y = decide (v ≤ u) := by
  rw [geB]
  rcases Int.lt_trichotomy u v with h | rfl | h
  · rw [order_lt hx hy h, decide_eq_false (by omega)]; rfl
  · rw [order_eq hx hy, decide_eq_true (by omega)]; rfl
  · rw [order_gt hx hy h, decide_eq_true (by omega)]; rfl
theorem leB_units {x y : Nat} {u v : Int} (hx : unitOf x = some u) (hy : unitOf y = some v) : leB x y = decide (u ≤ v) := by
  rw [leB]
  rcases Int.lt_trichotomy u v with h | rfl | h
  · rw [order_lt hx hy h, decide_eq_true (by omega)]; rfl
  · rw [order_eq hx hy, decide_eq_true (by omega)]; rfl
  · rw [order_gt hx hy h, decide_eq_false (by omega)]; rfl
theorem eqB_units {x y : Nat} {u v : Int} (hx : unitOf x = some u) (hy : unitOf y = some v) : eqB x y = decide (u = v) := by
  rw [eqB]
  rcases Int.lt_trichotomy u v with h | rfl | h
  · rw [order_lt hx hy h, decide_eq_false (by omega)]; rfl
  · rw [order_eq hx hy, decide_eq_true rfl]; rfl
  · rw [order_gt hx hy h, decide_eq_false (by omega)]; rfl

/-- What is no number is within no bounds. -/
theorem not_within {x y z : Nat} {v v' : Int} (hx : unitOf x = none) (hy : unitOf y = some v) (hz : unitOf z = some v') : (geB x y && leB x z) = false := by
  obtain ⟨t, n, j, hr, _, _⟩ := number_of_unit hy
  obtain ⟨t', n', j', hr', _, _⟩ := number_of_unit hz
  rw [geB, leB, Format.order, Format.order, hr, hr']
  cases h : double.read x with
  | number s m e => rw [unitOf, h] at hx; cases hx
  | nan s f => rfl
  | infinity s => cases s <;> rfl

theorem word_read {neg : Bool} {rung : Nat} (h0 : 4503599627370496 ≤ rung) (h1 : rung < 9218868437227405312) :
    double.read (double.word neg rung) = .number neg (4503599627370496 + rung % 4503599627370496) (-1074 + ((rung / 4503599627370496 - 1 : Nat) : Int)) := by
  have hx : double.word neg rung % 9223372036854775808 = rung := by
    cases neg
    · show rung % _ = _; omega
    · show (9223372036854775808 + rung) % _ = _; omega
  have hs : (double.word neg rung / 9223372036854775808 % 2 == 1) = neg := by
    cases neg
    · show (rung / 9223372036854775808 % 2 == 1) = false
      rw [show rung / 9223372036854775808 = 0 by omega]; rfl
    · show ((9223372036854775808 + rung) / 9223372036854775808 % 2 == 1) = true
      rw [show (9223372036854775808 + rung) / 9223372036854775808 = 1 by omega]; rfl
  rw [read_eq, hx, hs, if_neg (by omega), if_pos h1]

theorem nearest_zero (neg : Bool) : unitOf (double.nearest neg 0 0) = some 0 := by
  have h : double.read (double.nearest neg 0 0) = .number neg 0 (-1074) := by cases neg <;> rfl
  rw [unitOf_number h, signed_eq]; simp

theorem cut_none (neg : Bool) (n : Nat) : Toward.even.cut neg n 0 = n := by
  simp [Toward.cut, Nat.mod_one]

/-- A whole number of less than 2^53 is written without rounding. -/
theorem nearest_units (neg : Bool) (m : Nat) (hm : m < 9007199254740992) : unitOf (double.nearest neg m 0) = some ((if neg then -1 else 1) * ((m : Int) * K)) := by
  rcases Nat.eq_zero_or_pos m with rfl | h0
  · rw [nearest_zero]; simp
  have hne : m ≠ 0 := by omega
  have hlo : 2 ^ m.log2 ≤ m := Nat.log2_self_le hne
  have hhi : m < 2 ^ (m.log2 + 1) := Nat.lt_log2_self
  have hL : m.log2 ≤ 52 := by
    rcases Nat.lt_or_ge 52 m.log2 with h | h
    · have : 2 ^ 53 ≤ 2 ^ m.log2 := Nat.pow_le_pow_right (by omega) h
      omega
    · exact h
  have hM : 2 ^ m.log2 * 2 ^ (52 - m.log2) = 4503599627370496 := by
    rw [← Nat.pow_add, show m.log2 + (52 - m.log2) = 52 by omega]
  have hM2 : 2 ^ (m.log2 + 1) * 2 ^ (52 - m.log2) = 9007199254740992 := by
    rw [← Nat.pow_add, show m.log2 + 1 + (52 - m.log2) = 53 by omega]
  have hMlo : 4503599627370496 ≤ m * 2 ^ (52 - m.log2) := by rw [← hM]; exact Nat.mul_le_mul_right _ hlo
  have hMhi : m * 2 ^ (52 - m.log2) < 9007199254740992 := by rw [← hM2]; exact Nat.mul_lt_mul_of_pos_right hhi (Nat.two_pow_pos _)
  have hw : double.nearest neg m 0 = double.word neg ((m.log2 + 1022) * 4503599627370496 + m * 2 ^ (52 - m.log2)) := by
    unfold Format.nearest
    rw [if_neg hne]
    have hl : max ((0 : Int) + (m.log2 : Int) - (double.fractionBits : Int)) double.leastPlace = (m.log2 : Int) - 52 := by
      show max ((0 : Int) + (m.log2 : Int) - 52) (-1074) = _
      omega
    simp only [hl]
    rw [show ((0 : Int) - ((m.log2 : Int) - 52)).toNat = 52 - m.log2 by omega, show ((m.log2 : Int) - 52 - 0).toNat = 0 by omega, cut_none, Nat.shiftLeft_eq]
    rw [show ((m.log2 : Int) - 52 - double.leastPlace).toNat = m.log2 + 1022 by show ((m.log2 : Int) - 52 - (-1074)).toNat = _; omega]
    congr 1
    show min ((m.log2 + 1022) * 4503599627370496 + m * 2 ^ (52 - m.log2)) 9218868437227405312 = _
    omega
  generalize hMe : m * 2 ^ (52 - m.log2) = M at *
  have hr := word_read (neg := neg) (rung := (m.log2 + 1022) * 4503599627370496 + M) (by omega) (by omega)
  rw [← hw] at hr
  have e1 : 4503599627370496 + ((m.log2 + 1022) * 4503599627370496 + M) % 4503599627370496 = M := by omega
  have e2 : (-1074 : Int) + (((((m.log2 + 1022) * 4503599627370496 + M) / 4503599627370496 - 1 : Nat)) : Int) = (m.log2 : Int) - 52 := by omega
  rw [e1, e2] at hr
  have e3 : K = 2 ^ (52 - m.log2) * 2 ^ (m.log2 + 1022) := by
    rw [K, ← Int.pow_add, show 52 - m.log2 + (m.log2 + 1022) = far by rw [far_eq]; omega]
  have e4 : (M : Int) * 2 ^ (m.log2 + 1022) = (m : Int) * K := by
    rw [e3, ← hMe, Int.natCast_mul, Int.natCast_pow, Int.mul_assoc]; simp
  rw [unitOf_number hr, signed_eq, show ((m.log2 : Int) - 52 + 1074).toNat = m.log2 + 1022 by omega, e4]

/-- float64(n). -/
theorem ofInt_units (n : Int) (h : n.natAbs < 9007199254740992) : unitOf (double.write (.number (n < 0) n.natAbs 0)) = some (n * K) := by
  show unitOf (double.nearest (n < 0) n.natAbs 0) = _
  rw [nearest_units _ _ h]
  congr 1
  by_cases hn : n < 0
  · rw [if_pos (by simpa using hn), show ((n.natAbs : Nat) : Int) = -n by omega, Int.neg_mul, Int.neg_mul, Int.one_mul, Int.neg_neg]
  · rw [if_neg (by simpa using hn), show ((n.natAbs : Nat) : Int) = n by omega, Int.one_mul]

theorem log2_small {m d : Nat} (h : m.log2 + 2 < d) : m / 2 ^ d = 0 ∧ m / 2 ^ (m.log2 + 2) = 0 := by
  have hhi : m < 2 ^ (m.log2 + 1) := Nat.lt_log2_self
  have h1 : 2 ^ (m.log2 + 1) ≤ 2 ^ d := Nat.pow_le_pow_right (by omega) (by omega)
  have h2 : 2 ^ (m.log2 + 1) ≤ 2 ^ (m.log2 + 2) := Nat.pow_le_pow_right (by omega) (by omega)
  exact ⟨Nat.div_eq_of_lt (by omega), Nat.div_eq_of_lt (by omega)⟩

theorem cut_zero (neg : Bool) (n d : Nat) : Toward.zero.cut neg n d = n / 2 ^ d := by
  have h : Toward.zero.cut neg n d = n / 2 ^ min d (n.log2 + 2) := by simp [Toward.cut, Nat.shiftLeft_eq]
  rw [h]
  rcases Nat.lt_or_ge (n.log2 + 2) d with h1 | h1
  · rw [Nat.min_eq_right (by omega), (log2_small h1).1, (log2_small h1).2]
  · rw [Nat.min_eq_left h1]

/-- A number cut towards 0: what is left of its units. -/
theorem integral_units {x : Nat} {u : Int} (h : unitOf x = some u) : ∃ (s : Bool) (q : Nat), (double.read x).integral .zero = .number s q 0 ∧ u.tdiv K = (if s then -1 else 1) * (q : Int) ∧ u.natAbs / (2 ^ far) = q := by
  obtain ⟨s, m, e, hr, he, rfl⟩ := number_of_unit h
  refine ⟨s, m * 2 ^ e.toNat / 2 ^ (-e).toNat, by rw [hr, Datum.integral, cut_zero, Nat.shiftLeft_eq], ?_, ?_⟩
  · have hq : (m * 2 ^ e.toNat / 2 ^ (-e).toNat : Nat) = m * 2 ^ (e + 1074).toNat / 2 ^ far := by
      rcases Int.le_total 0 e with h0 | h0
      · rw [show (-e).toNat = 0 by omega, show (e + 1074).toNat = e.toNat + far by rw [far_eq]; omega, Nat.pow_add, ← Nat.mul_assoc, Nat.mul_div_cancel _ (Nat.two_pow_pos _)]; simp
      · rw [show e.toNat = 0 by omega, show far = (e + 1074).toNat + (-e).toNat by rw [far_eq]; omega, Nat.pow_add, Nat.mul_comm (2 ^ (e + 1074).toNat), Nat.mul_div_mul_right _ _ (Nat.two_pow_pos _)]; simp
    rw [hq, signed_eq, K]
    have e1 : ((m : Int) * 2 ^ (e + 1074).toNat) = ((m * 2 ^ (e + 1074).toNat : Nat) : Int) := by simp
    have e2 : ((2 : Int) ^ far) = ((2 ^ far : Nat) : Int) := by rw [Int.natCast_pow]; rfl
    rw [e1, e2]
    cases s
    · simp only [Bool.false_eq_true, if_false, Int.one_mul]; rfl
    · simp only [if_true]
      rw [Int.neg_mul, Int.one_mul, Int.neg_mul, Int.one_mul, Int.neg_tdiv]; rfl
  · rw [signed_eq]
    have e1 : ((if s = true then (-1 : Int) else 1) * ((m : Int) * 2 ^ (e + 1074).toNat)).natAbs = m * 2 ^ (e + 1074).toNat := by
      rw [Int.natAbs_mul]
      have e3 : ((m : Int) * 2 ^ (e + 1074).toNat).natAbs = m * 2 ^ (e + 1074).toNat := by
        have : ((m : Int) * 2 ^ (e + 1074).toNat) = ((m * 2 ^ (e + 1074).toNat : Nat) : Int) := by simp
        rw [this]; rfl
      rw [e3]
      cases s <;> simp
    rw [e1]
    rcases Int.le_total 0 e with h0 | h0
    · rw [show (-e).toNat = 0 by omega, show (e + 1074).toNat = e.toNat + far by rw [far_eq]; omega, Nat.pow_add, ← Nat.mul_assoc, Nat.mul_div_cancel _ (Nat.two_pow_pos _)]; simp
    · rw [show e.toNat = 0 by omega, show far = (e + 1074).toNat + (-e).toNat by rw [far_eq]; omega, Nat.pow_add, Nat.mul_comm (2 ^ (e + 1074).toNat), Nat.mul_div_mul_right _ _ (Nat.two_pow_pos _)]; simp

/-- The whole number that a float is, no more than 2^52 away from 0. -/
def wholeOf (x : Nat) : Option Int := match unitOf x with
  | some u => if -4503599627370496 * K ≤ u ∧ u ≤ 4503599627370496 * K ∧ u.tdiv K * K = u then some (u.tdiv K) else none
  | none => none

theorem tdiv_mul (n : Int) : (n * K).tdiv K = n := Int.mul_tdiv_cancel n (by have := K_pos; omega)
theorem mul_le (a b : Int) : a * K ≤ b * K ↔ a ≤ b := ⟨fun h => Int.le_of_mul_le_mul_right h K_pos, fun h => Int.mul_le_mul_of_nonneg_right h (Int.le_of_lt K_pos)⟩
theorem mul_inj {a b : Int} (h : a * K = b * K) : a = b := Int.eq_of_mul_eq_mul_right (by have := K_pos; omega) h

theorem wholeOf_some {x : Nat} {n : Int} : wholeOf x = some n ↔ unitOf x = some (n * K) ∧ -4503599627370496 ≤ n ∧ n ≤ 4503599627370496 := by
  unfold wholeOf
  constructor
  · intro h
    cases hu : unitOf x with
    | none => rw [hu] at h; cases h
    | some u =>
      rw [hu] at h
      simp only at h
      split at h
      · rename_i hc
        injection h with h
        obtain ⟨h1, h2, h3⟩ := hc
        rw [h] at h3
        rw [← h3] at h1 h2
        rw [h3]
        exact ⟨rfl, (mul_le _ _).1 h1, (mul_le _ _).1 h2⟩
      · cases h
  · rintro ⟨hu, h1, h2⟩
    rw [hu]
    simp only [tdiv_mul]
    rw [if_pos ⟨(mul_le _ _).2 h1, (mul_le _ _).2 h2, trivial⟩]

/-- A number within 2^52 of 0, cut towards 0, is written without rounding. -/
theorem tdiv_bound {u : Int} (h1 : -4503599627370496 * K ≤ u) (h2 : u ≤ 4503599627370496 * K) : -4503599627370496 ≤ u.tdiv K ∧ u.tdiv K ≤ 4503599627370496 := by
  have hk := K_pos
  rcases Int.le_total 0 u with h | h
  · rw [Int.tdiv_eq_ediv_of_nonneg h]
    have h3 : u / K ≤ 4503599627370496 := Int.ediv_le_of_le_mul hk h2
    have h4 : 0 ≤ u / K := Int.ediv_nonneg h (Int.le_of_lt hk)
    omega
  · have e : u = -(-u) := by omega
    rw [e, Int.neg_tdiv, Int.tdiv_eq_ediv_of_nonneg (by omega)]
    have h3 : -u / K ≤ 4503599627370496 := Int.ediv_le_of_le_mul hk (by omega)
    have h4 : 0 ≤ -u / K := Int.ediv_nonneg (by omega) (Int.le_of_lt hk)
    omega

theorem trunc_units {x : Nat} {u : Int} (h : unitOf x = some u) (h1 : -4503599627370496 * K ≤ u) (h2 : u ≤ 4503599627370496 * K) : unitOf (double.write ((double.read x).integral .zero)) = some (u.tdiv K * K) := by
  obtain ⟨s, q, hi, ht, _⟩ := integral_units h
  have hb := tdiv_bound h1 h2
  have hq : q < 9007199254740992 := by
    rw [ht] at hb
    cases s <;> simp at hb <;> omega
  rw [hi]
  show unitOf (double.nearest s q 0) = _
  rw [nearest_units s q hq, ht, Int.mul_assoc]

theorem toInt_units {x : Nat} {u : Int} (h : unitOf x = some u) : (double.read x).toInt .zero = some (u.tdiv K) := by
  obtain ⟨s, q, hi, ht, _⟩ := integral_units h
  rw [Datum.toInt, hi, ht]
  show some (signed s q 0) = _
  rw [signed_eq]; simp

theorem ofInt_whole (n : Int) (h0 : -4503599627370496 ≤ n) (h1 : n ≤ 4503599627370496) : wholeOf (double.write (.number (n < 0) n.natAbs 0)) = some n :=
  wholeOf_some.2 ⟨ofInt_units n (by omega), h0, h1⟩

end Punnet.Flt
