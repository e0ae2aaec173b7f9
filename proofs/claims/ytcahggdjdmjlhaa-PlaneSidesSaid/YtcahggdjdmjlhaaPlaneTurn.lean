/- The walks of plane.Turn and of the reference's Turn. -/
import Derived.Test.YtcahggdjdmjlhaaPlaneTimes
namespace Go.Proofs.Ytcahggdjdmjlhaa
open Go.RowKit Punnet.Flt
set_option linter.unusedVariables false

/-- So many quarters. -/
def turnP : Nat → Int × Int → Int × Int
  | 0, p => p
  | k + 1, p => turnP k (-p.2, p.1)

theorem quarter (t : Int) : ∃ (r : Int) (k : Nat), t.tmod 4 = r ∧ -3 ≤ r ∧ r ≤ 3 ∧ (r + 4) % 4 = k ∧ k < 4 ∧ (t % 4).toNat = k ∧ (r < 0 → r + 4 = k) ∧ (0 ≤ r → r = k) := by
  have h : t.tmod 4 = t % 4 ∨ t.tmod 4 = t % 4 - 4 := by
    rcases Int.le_total 0 t with h0 | h0
    · left; exact Int.tmod_eq_emod_of_nonneg h0
    · have e : t.tmod 4 = -((-t) % 4) := by
        rw [← Int.tmod_eq_emod_of_nonneg (by omega), Int.neg_tmod]; omega
      rw [e]; omega
  have hb : 0 ≤ t % 4 ∧ t % 4 < 4 := by omega
  have hr : -3 ≤ t.tmod 4 ∧ t.tmod 4 ≤ 3 := by
    rcases Int.le_total 0 t with h0 | h0
    · rw [Int.tmod_eq_emod_of_nonneg h0]; omega
    · have e : t.tmod 4 = -((-t) % 4) := by
        rw [← Int.tmod_eq_emod_of_nonneg (by omega), Int.neg_tmod]; omega
      rw [e]; omega
  exact ⟨t.tmod 4, (t % 4).toNat, rfl, hr.1, hr.2, by omega, by omega, rfl, by omega, by omega⟩

set_option maxHeartbeats 1000000 in
theorem turn_yes {a b : Nat} {n m : Int} (ha : IsAt a n 4503599627370496) (hb : IsAt b m 4503599627370496) (t : Int) (w : World) :
    Calls Try.prog 15 #[.complex .f64 a b, .int .i64 t] w fun e w' => e = .returned (.tuple #[.complex .f64 (floatOfInt .f64 (turnP (t % 4).toNat (n, m)).1) (floatOfInt .f64 (turnP (t % 4).toNat (n, m)).2), .int .i64 0]) ∧ Below w.heap.size w w' := by
  have P := Lib.hid (parts_yes ha hb)
  obtain ⟨b1, b2⟩ := ha.bound
  obtain ⟨b3, b4⟩ := hb.bound
  obtain ⟨r, k, e1, r1, r2, e2, hk, e3, e4, e5⟩ := quarter t
  clear e4 e5
  rw [e3]
  clear e3 ha hb
  have hk' : k = 0 ∨ k = 1 ∨ k = 2 ∨ k = 3 := by omega
  clear hk
  rcases hk' with rfl | rfl | rfl | rfl
  · have O := Lib.hid (of_yes (n := n) (m := m) (by omega) (by omega) (by omega) (by omega))
    go_enter Try.func15, Try.ntmps15
    go_wp2_with fail
    refine (P.out _).mono ?_
    rintro e w1 ⟨rfl, hb1⟩
    go_wp2_with fail
    refine (O.out _).mono ?_
    rintro e w2 ⟨rfl, rfl⟩
    go_wp2_with fail
    go_ret2
    exact ⟨rfl, hb1⟩
  · have O := Lib.hid (of_yes (n := -m) (m := n) (by omega) (by omega) (by omega) (by omega))
    go_enter Try.func15, Try.ntmps15
    go_wp2_with fail
    refine (P.out _).mono ?_
    rintro e w1 ⟨rfl, hb1⟩
    go_wp2_with fail
    refine (O.out _).mono ?_
    rintro e w2 ⟨rfl, rfl⟩
    go_wp2_with fail
    go_ret2
    exact ⟨rfl, hb1⟩
  · have O := Lib.hid (of_yes (n := -n) (m := -m) (by omega) (by omega) (by omega) (by omega))
    go_enter Try.func15, Try.ntmps15
    go_wp2_with fail
    refine (P.out _).mono ?_
    rintro e w1 ⟨rfl, hb1⟩
    go_wp2_with fail
    refine (O.out _).mono ?_
    rintro e w2 ⟨rfl, rfl⟩
    go_wp2_with fail
    go_ret2
    exact ⟨rfl, hb1⟩
  · have O := Lib.hid (of_yes (n := m) (m := -n) (by omega) (by omega) (by omega) (by omega))
    have hm : - -m = m := by omega
    have HM := Lib.hid hm
    clear hm
    go_enter Try.func15, Try.ntmps15
    go_wp2_with fail
    refine (P.out _).mono ?_
    rintro e w1 ⟨rfl, hb1⟩
    go_wp2_with fail
    refine (O.out _).mono ?_
    rintro e w2 ⟨rfl, rfl⟩
    go_wp2_with fail
    go_ret2
    refine ⟨?_, hb1⟩
    show _ = Ending.returned (.tuple #[.complex .f64 (floatOfInt .f64 (- -m)) (floatOfInt .f64 (-n)), .int .i64 0])
    rw [HM.out]
    rfl
set_option maxHeartbeats 400000 in
theorem turn_no {a b : Nat} (h : (okB a 4503599627370496 && okB b 4503599627370496) = false) (t : Int) (w : World) :
    Calls Try.prog 15 #[.complex .f64 a b, .int .i64 t] w fun e w' => e = .returned (.tuple #[.complex .f64 0 0, .int .i64 5]) ∧ Below w.heap.size w w' := by
  have P := Lib.hid (parts_no h)
  clear h
  go_enter Try.func15, Try.ntmps15
  go_wp2_with fail
  refine (P.out _).mono ?_
  rintro e w1 ⟨rfl, hb1⟩
  go_wp2_with fail
  go_ret2
  exact ⟨rfl, hb1⟩

theorem turnP_bound (k : Nat) : ∀ {p : Int × Int} {M : Int}, -M ≤ p.1 → p.1 ≤ M → -M ≤ p.2 → p.2 ≤ M → -M ≤ (turnP k p).1 ∧ (turnP k p).1 ≤ M ∧ -M ≤ (turnP k p).2 ∧ (turnP k p).2 ≤ M := by
  induction k with
  | zero => intro p M h1 h2 h3 h4; exact ⟨h1, h2, h3, h4⟩
  | succ k ih => intro p M h1 h2 h3 h4; exact ih (p := (-p.2, p.1)) (by simp; omega) (by simp; omega) h1 h2
theorem turnP_succ (k : Nat) : ∀ (p : Int × Int), turnP (k + 1) p = (-(turnP k p).2, (turnP k p).1) := by
  induction k with
  | zero => intro p; rfl
  | succ k ih => intro p; rw [turnP, ih]; rfl

set_option maxHeartbeats 1000000 in
theorem refTurn_yes {a b : Nat} {n m : Int} (ha : IsAt a n 4503599627370496) (hb : IsAt b m 4503599627370496) (t : Int) (w : World) :
    Calls Try.prog 16 #[.complex .f64 a b, .int .i64 t] w fun e w' => e = .returned (.tuple #[.complex .f64 (floatOfInt .f64 (turnP (t % 4).toNat (n, m)).1) (floatOfInt .f64 (turnP (t % 4).toNat (n, m)).2), .int .i64 0]) ∧ w = w' := by
  have P := Lib.hid (refParts_yes ha hb (by omega) (by omega))
  obtain ⟨b1, b2⟩ := ha.bound
  obtain ⟨b3, b4⟩ := hb.bound
  obtain ⟨r, k, e1, r1, r2, e2, hk, e3, e4, e5⟩ := quarter t
  rw [e3]
  clear e3 ha hb e2
  have key : ∃ r' : Int, (r < 0 ∧ r + 4 = r' ∧ r' = k) ∨ (0 ≤ r ∧ r = k ∧ r' = r) := by
    rcases Int.lt_or_le r 0 with h | h
    · exact ⟨k, .inl ⟨h, e4 h, rfl⟩⟩
    · exact ⟨r, .inr ⟨h, e5 h, rfl⟩⟩
  clear e4 e5
  obtain ⟨r', h | h⟩ := key
  · obtain ⟨h0, e2, rfl⟩ := h
    go_enter Try.func16, Try.ntmps16
    go_wp2_with fail
    refine (P.out _).mono ?_
    rintro e w1 ⟨rfl, rfl⟩
    go_wp2_with fail
    go_loop [6, 7, 10] (fun x y i => ∃ j : Nat, j ≤ k ∧ i = .int .i64 j ∧ x = .int .i64 (turnP j (n, m)).1 ∧ y = .int .i64 (turnP j (n, m)).2) (fun _ _ i => k - (intOf i).toNat)
    case atStart => exact ⟨0, Nat.zero_le _, rfl, rfl, rfl⟩
    case round =>
      obtain ⟨j, hj, rfl, rfl, rfl⟩ := hrel
      obtain ⟨c1, c2, c3, c4⟩ := turnP_bound j (p := (n, m)) (M := 4503599627370496) b1 b2 b3 b4
      have hs := turnP_succ j (n, m)
      have HS := Lib.hid hs
      clear hs e2
      by_cases hlt : j < k
      · have hlt' : (j : Int) < k := by omega
        go_wp2_with fail
        go_round
        case rel => exact ⟨j + 1, by omega, by go_num, by rw [HS.out], by rw [HS.out]⟩
        case measure => simp [intOf]; omega
      · have hlt' : ¬ (j : Int) < k := by omega
        have hjk : j = k := by omega
        subst hjk
        go_wp2_with fail
        refine (refOf_any _ _ _).mono ?_
        rintro e w2 ⟨rfl, rfl⟩
        go_wp2_with fail
        go_ret2
        exact ⟨rfl, rfl⟩
  · obtain ⟨h0, e2, _⟩ := h
    go_enter Try.func16, Try.ntmps16
    go_wp2_with fail
    refine (P.out _).mono ?_
    rintro e w1 ⟨rfl, rfl⟩
    go_wp2_with fail
    go_loop [6, 7, 10] (fun x y i => ∃ j : Nat, j ≤ k ∧ i = .int .i64 j ∧ x = .int .i64 (turnP j (n, m)).1 ∧ y = .int .i64 (turnP j (n, m)).2) (fun _ _ i => k - (intOf i).toNat)
    case atStart => exact ⟨0, Nat.zero_le _, rfl, rfl, rfl⟩
    case round =>
      obtain ⟨j, hj, rfl, rfl, rfl⟩ := hrel
      obtain ⟨c1, c2, c3, c4⟩ := turnP_bound j (p := (n, m)) (M := 4503599627370496) b1 b2 b3 b4
      have hs := turnP_succ j (n, m)
      have HS := Lib.hid hs
      clear hs e2
      by_cases hlt : j < k
      · have hlt' : (j : Int) < k := by omega
        go_wp2_with fail
        go_round
        case rel => exact ⟨j + 1, by omega, by go_num, by rw [HS.out], by rw [HS.out]⟩
        case measure => simp [intOf]; omega
      · have hlt' : ¬ (j : Int) < k := by omega
        have hjk : j = k := by omega
        subst hjk
        go_wp2_with fail
        refine (refOf_any _ _ _).mono ?_
        rintro e w2 ⟨rfl, rfl⟩
        go_wp2_with fail
        go_ret2
        exact ⟨rfl, rfl⟩
set_option maxHeartbeats 400000 in
theorem refTurn_no {a b : Nat} (h : (okB a 4503599627370496 && okB b 4503599627370496) = false) (t : Int) (w : World) :
    Calls Try.prog 16 #[.complex .f64 a b, .int .i64 t] w fun e w' => e = .returned (.tuple #[.complex .f64 0 0, .int .i64 5]) ∧ w = w' := by
  have P := Lib.hid (refParts_no h (by omega) (by omega))
  clear h
  go_enter Try.func16, Try.ntmps16
  go_wp2_with fail
  refine (P.out _).mono ?_
  rintro e w1 ⟨rfl, rfl⟩
  go_wp2_with fail
  go_ret2
  exact ⟨rfl, rfl⟩

end Go.Proofs.Ytcahggdjdmjlhaa
