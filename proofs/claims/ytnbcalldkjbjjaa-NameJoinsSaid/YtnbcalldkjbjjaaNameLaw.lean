/- Plain laws of quotes: what stands for a byte is read as that byte, and nothing else is. -/
import Derived.Test.YtnbcalldkjbjjaaNamePlain
namespace Punnet.Name

/-- What stands for a byte in a quote. -/
def signOf (c : UInt8) : List UInt8 := if plainB c then [c] else [92, hexOf (c.toNat / 16), hexOf (c.toNat % 16)]

theorem hexD_hexOf {n : Nat} (h : n < 16) : hexD (hexOf n) = some n := by
  unfold hexD hexOf
  by_cases h1 : n < 10
  · rw [if_pos h1, UInt8.toNat_ofNat', Nat.mod_eq_of_lt (by omega), if_pos (by omega)]
    congr 1
    omega
  · rw [if_neg h1, UInt8.toNat_ofNat', Nat.mod_eq_of_lt (by omega), if_neg (by omega), if_pos (by omega)]
    congr 1
    omega
theorem hexOf_hexD {c : UInt8} {n : Nat} (h : hexD c = some n) : hexOf n = c ∧ n < 16 := by
  unfold hexD at h
  split at h
  · injection h with h
    refine ⟨?_, by omega⟩
    unfold hexOf
    apply UInt8.toNat_inj.1
    rw [if_pos (by omega), UInt8.toNat_ofNat']; omega
  · split at h
    · injection h with h
      refine ⟨?_, by omega⟩
      unfold hexOf
      apply UInt8.toNat_inj.1
      rw [if_neg (by omega), UInt8.toNat_ofNat']; omega
    · cases h

theorem code2_of {c : UInt8} (h : plainB c = false) : code2 (hexOf (c.toNat / 16)) (hexOf (c.toNat % 16)) = some c := by
  have hc := c.toNat_lt
  unfold code2
  rw [hexD_hexOf (by omega), hexD_hexOf (by omega)]
  simp only
  have e : UInt8.ofNat (16 * (c.toNat / 16) + c.toNat % 16) = c := by
    rw [Nat.div_add_mod]; simp
  rw [e, h]
  rfl
theorem code2_inv {a b c : UInt8} (h : code2 a b = some c) : plainB c = false ∧ a = hexOf (c.toNat / 16) ∧ b = hexOf (c.toNat % 16) := by
  unfold code2 at h
  cases h1 : hexD a with
  | none => rw [h1] at h; cases h
  | some x =>
    cases h2 : hexD b with
    | none => rw [h1, h2] at h; cases h
    | some y =>
      rw [h1, h2] at h
      simp only at h
      split at h
      · cases h
      · rename_i hp
        injection h with h
        obtain ⟨e1, l1⟩ := hexOf_hexD h1
        obtain ⟨e2, l2⟩ := hexOf_hexD h2
        have hx : c.toNat = 16 * x + y := by rw [← h, UInt8.toNat_ofNat']; omega
        refine ⟨by rw [← h]; simpa using hp, ?_, ?_⟩
        · rw [hx, show (16 * x + y) / 16 = x by omega, e1]
        · rw [hx, show (16 * x + y) % 16 = y by omega, e2]

theorem plain_ne {c : UInt8} (h : plainB c = true) : c.toNat ≠ 92 ∧ c.toNat ≠ 34 := by
  unfold plainB at h
  simp only [Bool.and_eq_true, decide_eq_true_iff] at h
  exact ⟨h.2, h.1.2⟩

theorem sign_signOf (c : UInt8) (r : List UInt8) : sign (signOf c ++ r) = some (c, (signOf c).length - 1) := by
  unfold signOf
  cases hp : plainB c with
  | true =>
    rw [if_pos rfl]
    show sign (c :: r) = _
    rw [sign, if_neg (plain_ne hp).1, if_pos hp]; rfl
  | false =>
    rw [if_neg (by decide)]
    show sign (92 :: hexOf (c.toNat / 16) :: hexOf (c.toNat % 16) :: r) = _
    rw [sign, if_pos (show (92 : UInt8).toNat = 92 from rfl), coded, code2_of hp]; rfl
theorem sign_inv {m : List UInt8} {c : UInt8} {n : Nat} (h : sign m = some (c, n)) : ∃ r, m = signOf c ++ r ∧ n + 1 = (signOf c).length := by
  match m, h with
  | [], h => cases h
  | x :: r, h =>
    rw [sign] at h
    split at h
    · rename_i h92
      have e92 : x = 92 := UInt8.toNat_inj.1 h92
      subst e92
      match r, h with
      | [], h => cases h
      | [_], h => cases h
      | a :: b :: r', h =>
        rw [coded] at h
        cases hc : code2 a b with
        | none => rw [hc] at h; cases h
        | some y =>
          rw [hc] at h
          injection h with h
          injection h with h1 h2
          subst h1 h2
          obtain ⟨hp, e1, e2⟩ := code2_inv hc
          refine ⟨r', ?_, ?_⟩
          · unfold signOf; rw [hp, if_neg (by decide), e1, e2]; rfl
          · unfold signOf; rw [hp, if_neg (by decide)]; rfl
    · split at h
      · rename_i hp
        injection h with h
        injection h with h1 h2
        subst h1 h2
        refine ⟨r, ?_, ?_⟩
        · unfold signOf; rw [hp, if_pos rfl]; rfl
        · unfold signOf; rw [hp, if_pos rfl]; rfl
      · cases h
theorem signOf_pos (c : UInt8) : 1 ≤ (signOf c).length ∧ (signOf c).length ≤ 3 := by
  unfold signOf; split <;> simp

end Punnet.Name
