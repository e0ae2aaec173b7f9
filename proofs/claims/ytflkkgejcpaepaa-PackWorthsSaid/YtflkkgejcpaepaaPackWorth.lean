/- The walks of pack.Worth and of the reference's Worth. -/
import Derived.Test.YtflkkgejcpaepaaPack
namespace Go.Proofs.Ytflkkgejcpaepaa
open Go.RowKit Punnet.Flt
set_option linter.unusedVariables false

/-- So many times, and the code. -/
def worthOf (n k : Int) : Int × Int := if 1 ≤ k ∧ k ≤ 1048576 then (if nearB (n * k) then (n * k, 0) else (0, 3)) else (0, 2)

set_option maxHeartbeats 800000 in
theorem worth_any (n k : Int) (w : World) :
    Calls Try.prog 18 #[.int .i64 n, .int .i64 k] w fun e w' => e = .returned (.tuple #[.int .i64 (worthOf n k).1, .int .i64 (worthOf n k).2]) ∧ w = w' := by
  by_cases hk : 1 ≤ k ∧ k ≤ 1048576
  · have hv : worthOf n k = if nearB (n * k) then (n * k, 0) else (0, 3) := by unfold worthOf; rw [if_pos hk]
    obtain ⟨k1, k2⟩ := hk
    have hm := most_iff (p := n) (f := k) k1
    obtain ⟨b7, b8⟩ := most_bound k k1
    obtain ⟨q, hq⟩ : ∃ q, 4503599627370496 / k = q := ⟨_, rfl⟩
    rw [hq] at hm b7 b8
    have hk0 : (k == 0) = false := beq_eq_false_iff_ne.2 (by omega)
    by_cases hn : -q ≤ n ∧ n ≤ q
    · have HV := Lib.hid (show worthOf n k = (n * k, 0) by rw [hv, hm.1 hn]; rfl)
      obtain ⟨c1, c2⟩ := nearB_true.1 (hm.1 hn)
      obtain ⟨n1, n2⟩ := hn
      clear hm hv
      go_enter Try.func18, Try.ntmps18
      go_wp2
      go_ret2
      exact ⟨by rw [HV.out]; rfl, rfl⟩
    · have HV := Lib.hid (show worthOf n k = (0, 3) by
        have : nearB (n * k) = false := by rw [Bool.eq_false_iff]; exact fun h => hn (hm.2 h)
        rw [hv, this]; rfl)
      have hn' : n < -q ∨ (-q ≤ n ∧ q < n) := by omega
      clear hm hv hn
      rcases hn' with n1 | ⟨n1, n2⟩
      all_goals
        go_enter Try.func18, Try.ntmps18
        go_wp2
        go_ret2
        exact ⟨by rw [HV.out]; rfl, rfl⟩
  · have HV := Lib.hid (show worthOf n k = (0, 2) by unfold worthOf; rw [if_neg hk])
    have hk' : k < 1 ∨ (1 ≤ k ∧ 1048576 < k) := by omega
    clear hk
    rcases hk' with n1 | ⟨n1, n2⟩
    all_goals
      go_enter Try.func18, Try.ntmps18
      go_wp2
      go_ret2
      exact ⟨by rw [HV.out]; rfl, rfl⟩

/-- Digit by digit: what is ahead of a digit, twice, and the digit. -/
theorem bits_step (k d : Nat) : k / d = 2 * (k / (2 * d)) + k / d % 2 := by
  have : k / (2 * d) = k / d / 2 := by rw [Nat.mul_comm, Nat.div_div_eq_div_mul]
  omega
theorem sum_step (n : Int) {a b c : Nat} (h : a = 2 * b + c) (hc : c = 0 ∨ c = 1) : n * (a : Int) = n * (b : Int) + n * (b : Int) + (if c = 1 then n else 0) := by
  subst h
  rcases hc with rfl | rfl
  · rw [if_neg (by omega)]; push_cast; rw [Int.mul_add, Int.mul_left_comm]; omega
  · rw [if_pos rfl]; push_cast; rw [Int.mul_add, Int.mul_left_comm]; omega
theorem near_less {n : Int} {a k : Nat} (h : a ≤ k) (hn : nearB (n * k) = true) : nearB (n * a) = true := by
  rw [nearB_true] at *
  have h1 : (n * a).natAbs ≤ (n * k).natAbs := by
    rw [Int.natAbs_mul, Int.natAbs_mul]
    exact Nat.mul_le_mul_left _ (by omega)
  omega

set_option maxHeartbeats 1000000 in
theorem refWorth_any (n : Int) (k : Int) (w : World) :
    Calls Try.prog 19 #[.int .i64 n, .int .i64 k] w fun e w' => e = .returned (.tuple #[.int .i64 (worthOf n k).1, .int .i64 (worthOf n k).2]) ∧ w = w' := by
  have N := Lib.hid (near_any n)
  by_cases hk : 1 ≤ k ∧ k ≤ 1048576
  · have hv : worthOf n k = if nearB (n * k) then (n * k, 0) else (0, 3) := by unfold worthOf; rw [if_pos hk]
    obtain ⟨k1, k2⟩ := hk
    obtain ⟨m, rfl⟩ : ∃ m : Nat, k = m := ⟨k.toNat, by omega⟩
    cases hn : nearB n with
    | false =>
      have HV := Lib.hid (show worthOf n m = (0, 3) by
        have : nearB (n * m) = false := by
          rw [Bool.eq_false_iff]
          intro h
          have := near_less (n := n) (a := 1) (k := m) (by omega) h
          rw [show n * ((1 : Nat) : Int) = n by omega, hn] at this
          cases this
        rw [hv, this]; rfl)
      rw [hn] at N
      clear hn hv
      go_enter Try.func19, Try.ntmps19
      go_wp2_with fail
      refine (N.out _).mono ?_
      rintro e w1 ⟨rfl, rfl⟩
      go_wp2_with fail
      go_ret2
      exact ⟨by rw [HV.out]; rfl, rfl⟩
    | true =>
      rw [hn] at N
      obtain ⟨n1, n2⟩ := nearB_true.1 hn
      have HV := Lib.hid hv
      have HN := Lib.hid hn
      clear hv hn
      go_enter Try.func19, Try.ntmps19
      go_wp2_with fail
      refine (N.out _).mono ?_
      rintro e w1 ⟨rfl, rfl⟩
      go_wp2_with fail
      go_loop [6, 7] (fun s d => ∃ (D : Nat) (S : Int), d = .int .i64 D ∧ s = .int .i64 S ∧ D ≤ 1048576 ∧ ((∃ j, D = 2 ^ j) ∨ D = 0) ∧ -4503599627370496 ≤ S ∧ S ≤ 4503599627370496 ∧ S = n * (if D = 0 then m else m / (2 * D) : Nat)) (fun _ d => (intOf d).toNat)
      case atStart => exact ⟨1048576, 0, rfl, rfl, by omega, .inl ⟨20, rfl⟩, by omega, by omega, by rw [if_neg (by omega), Nat.div_eq_of_lt (by omega)]; simp⟩
      case round =>
        obtain ⟨D, S, rfl, rfl, hD, hj, s1, s2, hS⟩ := hrel
        by_cases hz : D = 0
        · subst hz
          rw [if_pos rfl] at hS
          have HE := Lib.hid (show worthOf n m = (S, 0) by
            rw [HV.out, ← hS, nearB_true.2 ⟨s1, s2⟩]; rfl)
          clear hS hj
          go_wp2_with fail
          go_ret2
          exact ⟨by rw [HE.out]; rfl, rfl⟩
        · rw [if_neg hz] at hS
          obtain ⟨j, hj⟩ : ∃ j, D = 2 ^ j := by
            rcases hj with h | h
            · exact h
            · exact absurd h hz
          have hD0 : ((D : Int) == 0) = false := beq_eq_false_iff_ne.2 (by omega)
          have hD1 : (0 : Int) < D := by omega
          have hS' := sum_step n (bits_step m D) (by omega)
          rw [← hS] at hS'
          have hq : (m : Int) / (D : Int) = ((m / D : Nat) : Int) := (Int.natCast_ediv _ _).symm
          have hqb : m / D ≤ 1048576 := Nat.le_trans (Nat.div_le_self m D) (by omega)
          have hbit : ((((m / D : Nat) : Int) % 2) == 1) = decide (m / D % 2 = 1) := by
            by_cases e : m / D % 2 = 1
            · rw [decide_eq_true e, beq_iff_eq]; omega
            · rw [decide_eq_false e, beq_eq_false_iff_ne]; omega
          have hrel2 : ∀ S', n * ((m / D : Nat) : Int) = S' → S' = n * (if D / 2 = 0 then m else m / (2 * (D / 2)) : Nat) := by
            intro S' h
            rw [← h]
            by_cases hd : D / 2 = 0
            · rw [if_pos hd]
              have : D = 1 := by omega
              subst this
              rw [Nat.div_one]
            · rw [if_neg hd]
              have : 2 * (D / 2) = D := by
                cases j with
                | zero => subst hj; simp at hd
                | succ j => subst hj; rw [Nat.pow_succ]; omega
              rw [this]
          have hj2 : (∃ i, D / 2 = 2 ^ i) ∨ D / 2 = 0 := by
            cases j with
            | zero => right; subst hj; rfl
            | succ j => left; exact ⟨j, by subst hj; rw [Nat.pow_succ]; omega⟩
          have hover : nearB (n * ((m / D : Nat) : Int)) = false → worthOf n m = (0, 3) := by
            intro h
            have : nearB (n * (m : Int)) = false := by
              rw [Bool.eq_false_iff]
              intro h2
              have := near_less (n := n) (Nat.div_le_self m D) h2
              rw [h] at this
              cases this
            rw [HV.out, this]; rfl
          have key : ∃ (bt : Bool) (S2 : Int), ((((m / D : Nat) : Int) % 2) == 1) = bt ∧ n * ((m / D : Nat) : Int) = S2 ∧ ((bt = true ∧ S2 = S + S + n) ∨ (bt = false ∧ S2 = S + S)) := by
            by_cases e : m / D % 2 = 1
            · exact ⟨true, S + S + n, by rw [hbit, decide_eq_true e], by rw [hS', if_pos e], .inl ⟨rfl, rfl⟩⟩
            · exact ⟨false, S + S, by rw [hbit, decide_eq_false e], by rw [hS', if_neg e]; omega, .inr ⟨rfl, rfl⟩⟩
          obtain ⟨bt, S2, kb, kn, ks⟩ := key
          have HR := Lib.hid (hrel2 S2 kn)
          rw [kn] at hover
          have HO := Lib.hid hover
          have HJ := Lib.hid hj2
          have A := Lib.hid (near_any S2)
          clear hS hj hS' hrel2 hj2 hbit hover kn
          generalize m / D = Q at hq hqb kb
          rcases ks with ⟨rfl, rfl⟩ | ⟨rfl, rfl⟩
          all_goals
            cases hc : nearB _ with
            | true =>
              rw [hc] at A
              obtain ⟨t1, t2⟩ := nearB_true.1 hc
              clear hc
              go_wp2_with fail
              refine (A.out _).mono ?_
              rintro e w1 ⟨rfl, rfl⟩
              go_wp2_with fail
              go_round
              case rel => exact ⟨D / 2, _, by go_num, rfl, by omega, HJ.out, t1, t2, HR.out⟩
              case measure => simp [intOf]; omega
            | false =>
              have HE := Lib.hid (HO.out hc)
              rw [hc] at A
              clear hc
              go_wp2_with fail
              refine (A.out _).mono ?_
              rintro e w1 ⟨rfl, rfl⟩
              go_wp2_with fail
              go_ret2
              exact ⟨by rw [HE.out]; rfl, rfl⟩
  · have HV := Lib.hid (show worthOf n k = (0, 2) by unfold worthOf; rw [if_neg hk])
    have hk' : k < 1 ∨ (1 ≤ k ∧ 1048576 < k) := by omega
    clear hk
    rcases hk' with n1 | ⟨n1, n2⟩
    all_goals
      go_enter Try.func19, Try.ntmps19
      go_wp2_with fail
      go_ret2
      exact ⟨by rw [HV.out]; rfl, rfl⟩

end Go.Proofs.Ytflkkgejcpaepaa
