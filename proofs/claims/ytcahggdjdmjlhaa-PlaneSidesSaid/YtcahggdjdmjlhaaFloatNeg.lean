/- A float with another sign. -/
import Derived.Test.YtcahggdjdmjlhaaFloat
namespace Punnet.Flt
open Ieee

theorem xor_low {x : Nat} (h : x < 2 ^ 63) : x ^^^ 2 ^ 63 = 2 ^ 63 + x := by
  apply Nat.eq_of_testBit_eq
  intro i
  rw [Nat.testBit_xor, Nat.testBit_two_pow]
  rcases Nat.lt_trichotomy i 63 with hi | rfl | hi
  · rw [Nat.testBit_two_pow_add_gt hi, decide_eq_false (by omega), Bool.xor_false]
  · rw [Nat.testBit_two_pow_add_eq, Nat.testBit_lt_two_pow h]; rfl
  · have h64 : 2 ^ 64 ≤ 2 ^ i := Nat.pow_le_pow_right (by omega) hi
    rw [decide_eq_false (by omega), Bool.xor_false, Nat.testBit_lt_two_pow (by omega), Nat.testBit_lt_two_pow (by omega)]
theorem xor_high {x : Nat} (h : x < 2 ^ 63) : (2 ^ 63 + x) ^^^ 2 ^ 63 = x := by
  rw [← xor_low h, Nat.xor_assoc, Nat.xor_self, Nat.xor_zero]

/-- Another sign. -/
theorem unit_flip {x : Nat} {u : Int} (hx : x < 18446744073709551616) (h : unitOf x = some u) : unitOf (x ^^^ 9223372036854775808) = some (-u) := by
  have key : ∃ s m e s', double.read x = .number s m e ∧ double.read (x ^^^ 9223372036854775808) = .number s' m e ∧ s' = !s := by
    obtain ⟨s, m, e, hr, _, _⟩ := number_of_unit h
    rcases Nat.lt_or_ge x 9223372036854775808 with h1 | h1
    · have e1 : x ^^^ 9223372036854775808 = 9223372036854775808 + x := xor_low h1
      rw [e1]
      refine ⟨s, m, e, !s, hr, ?_, rfl⟩
      rw [read_eq] at hr ⊢
      rw [show (9223372036854775808 + x) % 9223372036854775808 = x % 9223372036854775808 by omega, show (9223372036854775808 + x) / 9223372036854775808 = 1 by omega]
      rw [show x / 9223372036854775808 = 0 by omega] at hr
      split at hr
      · injection hr with h2 h3 h4; subst h2 h3 h4; rw [if_pos (by assumption)]; rfl
      · split at hr
        · injection hr with h2 h3 h4; subst h2 h3 h4; rw [if_neg (by assumption), if_pos (by assumption)]; rfl
        · split at hr <;> cases hr
    · obtain ⟨y, rfl⟩ : ∃ y, x = 9223372036854775808 + y := ⟨x - 9223372036854775808, by omega⟩
      have hy : y < 9223372036854775808 := by omega
      have e1 : (9223372036854775808 + y) ^^^ 9223372036854775808 = y := xor_high hy
      rw [e1]
      refine ⟨s, m, e, !s, hr, ?_, rfl⟩
      rw [read_eq] at hr ⊢
      rw [show (9223372036854775808 + y) % 9223372036854775808 = y % 9223372036854775808 by omega, show (9223372036854775808 + y) / 9223372036854775808 = 1 by omega] at hr
      rw [show y / 9223372036854775808 = 0 by omega]
      split at hr
      · injection hr with h2 h3 h4; subst h2 h3 h4; rw [if_pos (by assumption)]; rfl
      · split at hr
        · injection hr with h2 h3 h4; subst h2 h3 h4; rw [if_neg (by assumption), if_pos (by assumption)]; rfl
        · split at hr <;> cases hr
  obtain ⟨s, m, e, s', h1, h2, rfl⟩ := key
  rw [unitOf_number h1] at h
  injection h with h
  rw [unitOf_number h2, ← h, signed_eq, signed_eq]
  cases s <;> simp

end Punnet.Flt
