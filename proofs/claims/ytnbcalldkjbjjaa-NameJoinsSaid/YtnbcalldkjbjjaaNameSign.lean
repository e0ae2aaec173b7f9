/- The walks of name.plain, digit, coded. -/
import Derived.Test.YtnbcalldkjbjjaaKit
import Derived.Test.YtnbcalldkjbjjaaNamePlain
namespace Go.Proofs.Ytnbcalldkjbjjaa
open Go.RowKit Punnet.Name
set_option linter.unusedVariables false

theorem plain_any (c : UInt8) (w : World) : Calls Try.prog 22 #[.int .u8 (c.toNat : Int)] w fun e w' => e = .returned (.bool (plainB c)) ∧ w = w' := by
  have H := Lib.hid (show plainB c = (decide (32 ≤ c.toNat) && decide (c.toNat ≤ 126) && decide (c.toNat ≠ 34) && decide (c.toNat ≠ 92)) from rfl)
  have key : (c.toNat < 32 ∧ plainB c = false) ∨ (32 ≤ c.toNat ∧ 126 < c.toNat ∧ plainB c = false) ∨ (32 ≤ c.toNat ∧ c.toNat ≤ 126 ∧ (((c.toNat : Int) != 34) = false) ∧ plainB c = false) ∨
      (32 ≤ c.toNat ∧ c.toNat ≤ 126 ∧ (((c.toNat : Int) != 34) = true) ∧ (((c.toNat : Int) != 92) = false) ∧ plainB c = false) ∨ (32 ≤ c.toNat ∧ c.toNat ≤ 126 ∧ (((c.toNat : Int) != 34) = true) ∧ (((c.toNat : Int) != 92) = true) ∧ plainB c = true) := by
    rw [H.out]
    generalize c.toNat = n
    by_cases h1 : 32 ≤ n
    · by_cases h2 : n ≤ 126
      · by_cases h3 : n = 34
        · right; right; left; subst h3; exact ⟨h1, h2, rfl, rfl⟩
        · have b3 : ((n : Int) != 34) = true := by rw [bne_iff_ne]; omega
          by_cases h4 : n = 92
          · right; right; right; left; subst h4; exact ⟨h1, h2, rfl, rfl, rfl⟩
          · have b4 : ((n : Int) != 92) = true := by rw [bne_iff_ne]; omega
            right; right; right; right; exact ⟨h1, h2, b3, b4, by simp [h1, h2, h3, h4]⟩
      · right; left; exact ⟨h1, by omega, by simp [h2]⟩
    · left; exact ⟨by omega, by simp [h1]⟩
  clear H
  rcases key with ⟨h1, h⟩ | ⟨h1, h2, h⟩ | ⟨h1, h2, h3, h⟩ | ⟨h1, h2, h3, h4, h⟩ | ⟨h1, h2, h3, h4, h⟩
  all_goals
    have HV := Lib.hid h
    clear h
    go_enter Try.func22, Try.ntmps22
    go_wp2
    go_ret
    exact ⟨ret_bool (by rw [HV.out]), rfl⟩

theorem digit_yes {c : UInt8} {h : Nat} (hh : hexD c = some h) (w : World) : Calls Try.prog 26 #[.int .u8 (c.toNat : Int)] w fun e w' => e = .returned (.tuple #[.int .u8 (h : Int), .bool true]) ∧ w = w' := by
  unfold hexD at hh
  split at hh
  · rename_i hc
    injection hh with hh
    obtain ⟨h1, h2⟩ := hc
    have HE := Lib.hid (show ((c.toNat : Int) - 48) = (h : Int) by omega)
    clear hh
    go_enter Try.func26, Try.ntmps26
    go_wp2
    go_ret2
    exact ⟨by rw [← HE.out]; rfl, rfl⟩
  · split at hh
    · rename_i hc
      injection hh with hh
      obtain ⟨h1, h2⟩ := hc
      have h3 : ¬ (c.toNat : Int) ≤ 57 := by omega
      have HE := Lib.hid (show ((c.toNat : Int) - 97 + 10) = (h : Int) by omega)
      clear hh
      go_enter Try.func26, Try.ntmps26
      go_wp2
      go_ret2
      exact ⟨by rw [← HE.out]; rfl, rfl⟩
    · cases hh
theorem digit_no {c : UInt8} (hh : hexD c = none) (w : World) : Calls Try.prog 26 #[.int .u8 (c.toNat : Int)] w fun e w' => e = .returned (.tuple #[.int .u8 0, .bool false]) ∧ w = w' := by
  unfold hexD at hh
  split at hh
  · cases hh
  · rename_i h1
    split at hh
    · cases hh
    · rename_i h2
      have key : c.toNat < 48 ∨ (57 < c.toNat ∧ c.toNat < 97) ∨ 102 < c.toNat := by omega
      clear h1 h2 hh
      rcases key with h | ⟨h, h'⟩ | h
      all_goals
        go_enter Try.func26, Try.ntmps26
        go_wp2
        go_ret2
        exact ⟨rfl, rfl⟩

theorem hexD_lt {c : UInt8} {h : Nat} (hh : hexD c = some h) : h < 16 := by
  unfold hexD at hh
  split at hh
  · injection hh; omega
  · split at hh
    · injection hh; omega
    · cases hh

theorem or_nat {a b : Nat} (ha : a < 16) (hb : b < 16) : bits .or .u8 ((a : Int) * 16) (b : Int) = ((16 * a + b : Nat) : Int) := by
  have h := u8_or_nat (a * 16) b (by omega) (by omega)
  have e : a * 16 ||| b = 16 * a + b := by
    have := Nat.shiftLeft_add_eq_or_of_lt (i := 4) (b := b) (by omega) a
    rw [Nat.shiftLeft_eq] at this
    rw [← this]; omega
  rw [e] at h
  rw [← h]
  congr 1
set_option maxHeartbeats 400000 in
theorem coded_short (s : ByteArray) (k : Nat) (w : World) (hs : s.size ≤ maxLen) (hk : k < s.size) (h : s.size < k + 3) :
    Calls Try.prog 25 #[.string s, .int .i64 k] w fun e w' => e = .returned (.tuple #[.int .u8 0, .bool false]) ∧ w = w' := by
  unfold maxLen at hs
  have h' : (s.size : Int) - k < 3 := by omega
  go_enter Try.func25, Try.ntmps25
  go_wp2
  go_ret2
  exact ⟨rfl, rfl⟩

set_option maxHeartbeats 400000 in
theorem coded_yes (s : ByteArray) (k : Nat) (w : World) (hs : s.size ≤ maxLen) (hk : k + 2 < s.size) {x : UInt8} (h : code2 s[k + 1] s[k + 2] = some x) :
    Calls Try.prog 25 #[.string s, .int .i64 k] w fun e w' => e = .returned (.tuple #[.int .u8 (x.toNat : Int), .bool true]) ∧ w = w' := by
  unfold maxLen at hs
  unfold code2 at h
  cases h1 : hexD s[k + 1] with
  | none => rw [h1] at h; cases h
  | some a =>
    cases h2 : hexD s[k + 2] with
    | none => rw [h1, h2] at h; cases h
    | some b =>
      rw [h1, h2] at h
      simp only at h
      split at h
      · cases h
      · rename_i hp
        injection h with h
        have D1 := Lib.hid (digit_yes h1)
        have D2 := Lib.hid (digit_yes h2)
        have la := hexD_lt h1
        have lb := hexD_lt h2
        have P := Lib.hid (plain_any (UInt8.ofNat (16 * a + b)))
        rw [Bool.not_eq_true] at hp
        rw [hp] at P
        have hx : x.toNat = 16 * a + b := by rw [← h, UInt8.toNat_ofNat']; omega
        rw [h] at P
        have hor : bits .or .u8 ((a : Int) * 16) (b : Int) = (x.toNat : Int) := by rw [or_nat la lb, hx]
        clear h1 h2 hp h hx
        have hb : ¬ (s.size : Int) - k < 3 := by omega
        go_enter Try.func25, Try.ntmps25
        go_wp2_with fail
        refine (D1.out _).mono ?_
        rintro e w1 ⟨rfl, rfl⟩
        go_wp2_with fail
        refine (D2.out _).mono ?_
        rintro e w1 ⟨rfl, rfl⟩
        go_wp2_with fail
        refine (P.out _).mono ?_
        rintro e w1 ⟨rfl, rfl⟩
        go_wp2_with fail
        go_ret2
        exact ⟨rfl, rfl⟩

/-- It is told that there is none; beside it some byte. -/
def NoCode (w : World) (e : Ending) (w' : World) : Prop := ∃ n : Int, e = .returned (.tuple #[.int .u8 n, .bool false]) ∧ w = w'

set_option maxHeartbeats 800000 in
theorem coded_no (s : ByteArray) (k : Nat) (w : World) (hs : s.size ≤ maxLen) (hk : k + 2 < s.size) (h : code2 s[k + 1] s[k + 2] = none) :
    Calls Try.prog 25 #[.string s, .int .i64 k] w (NoCode w) := by
  unfold maxLen at hs
  have hb : ¬ (s.size : Int) - k < 3 := by omega
  unfold code2 at h
  cases h1 : hexD s[k + 1] with
  | none =>
    have D1 := Lib.hid (digit_no h1)
    cases h2 : hexD s[k + 2] with
    | none =>
      have D2 := Lib.hid (digit_no h2)
      clear h1 h2 h
      go_enter Try.func25, Try.ntmps25
      go_wp2_with fail
      refine (D1.out _).mono ?_
      rintro e w1 ⟨rfl, rfl⟩
      go_wp2_with fail
      refine (D2.out _).mono ?_
      rintro e w1 ⟨rfl, rfl⟩
      go_wp2_with fail
      go_ret2
      exact ⟨_, rfl, rfl⟩
    | some b =>
      have D2 := Lib.hid (digit_yes h2)
      have lb := hexD_lt h2
      clear h1 h2 h
      go_enter Try.func25, Try.ntmps25
      go_wp2_with fail
      refine (D1.out _).mono ?_
      rintro e w1 ⟨rfl, rfl⟩
      go_wp2_with fail
      refine (D2.out _).mono ?_
      rintro e w1 ⟨rfl, rfl⟩
      go_wp2_with fail
      go_ret2
      exact ⟨_, rfl, rfl⟩
  | some a =>
    have D1 := Lib.hid (digit_yes h1)
    have la := hexD_lt h1
    cases h2 : hexD s[k + 2] with
    | none =>
      have D2 := Lib.hid (digit_no h2)
      clear h1 h2 h
      go_enter Try.func25, Try.ntmps25
      go_wp2_with fail
      refine (D1.out _).mono ?_
      rintro e w1 ⟨rfl, rfl⟩
      go_wp2_with fail
      refine (D2.out _).mono ?_
      rintro e w1 ⟨rfl, rfl⟩
      go_wp2_with fail
      go_ret2
      exact ⟨_, rfl, rfl⟩
    | some b =>
      rw [h1, h2] at h
      simp only at h
      split at h
      · rename_i hp
        have D2 := Lib.hid (digit_yes h2)
        have lb := hexD_lt h2
        have P := Lib.hid (plain_any (UInt8.ofNat (16 * a + b)))
        rw [hp] at P
        have hx : (UInt8.ofNat (16 * a + b)).toNat = 16 * a + b := by rw [UInt8.toNat_ofNat']; omega
        have hor : bits .or .u8 ((a : Int) * 16) (b : Int) = ((UInt8.ofNat (16 * a + b)).toNat : Int) := by rw [or_nat la lb, hx]
        clear h1 h2 hp h hx
        generalize UInt8.ofNat (16 * a + b) = x at *
        go_enter Try.func25, Try.ntmps25
        go_wp2_with fail
        refine (D1.out _).mono ?_
        rintro e w1 ⟨rfl, rfl⟩
        go_wp2_with fail
        refine (D2.out _).mono ?_
        rintro e w1 ⟨rfl, rfl⟩
        go_wp2_with fail
        refine (P.out _).mono ?_
        rintro e w1 ⟨rfl, rfl⟩
        go_wp2_with fail
        go_ret2
        exact ⟨_, rfl, rfl⟩
      · cases h
end Go.Proofs.Ytnbcalldkjbjjaa
