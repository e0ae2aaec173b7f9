/- The walk of the law PackAdds. -/
import Derived.Test.YtflkkgejcpaepaaPackAwake
namespace Go.Proofs.Ytflkkgejcpaepaa
open Go.RowKit Punnet.Flt
set_option linter.unusedVariables false

theorem join_any (a b : Nat) (f : Int) : ∃ n c : Int, Hid (∀ w, Calls Try.prog 8 #[.complex .f64 a b, .int .i64 f] w fun e w' => e = .returned (.tuple #[.int .i64 n, .int .i64 c]) ∧ Below w.heap.size w w') ∧
    (c = 0 → facB f = true ∧ ∃ u p, IsAt a u 4503599627370496 ∧ IsAt b p 4503599627370496 ∧ n = u + p * f ∧ nearB n = true) := by
  cases hf : facB f with
  | false => exact ⟨0, 2, fun w => join_arg a b hf w, fun h => absurd h (by omega)⟩
  | true =>
    rcases both_cases a b 4503599627370496 with ⟨u, p, hu, hp⟩ | h
    · refine ⟨_, _, fun w => join_yes hu hp hf w, fun h => ⟨rfl, u, p, hu, hp, ?_⟩⟩
      unfold joinOf at *
      by_cases hj : (nearB (p * f) && nearB (u + p * f)) = true
      · rw [if_pos hj]
        rw [Bool.and_eq_true] at hj
        exact ⟨rfl, hj.2⟩
      · rw [if_neg hj] at h; exact absurd h (by simp)
    · exact ⟨0, 5, fun w => join_form h hf w, fun h => absurd h (by omega)⟩
theorem plus_any (a b c d : Nat) : ∃ (x y : Nat) (g : Int), Hid (∀ w, Calls Try.prog 17 #[.complex .f64 a b, .complex .f64 c d] w fun e w' => e = .returned (.tuple #[.complex .f64 x y, .int .i64 g]) ∧ Below w.heap.size w w') ∧
    ∀ u p u' p', IsAt a u 4503599627370496 → IsAt b p 4503599627370496 → IsAt c u' 4503599627370496 → IsAt d p' 4503599627370496 → g = 0 → IsAt x (u + u') 4503599627370496 ∧ IsAt y (p + p') 4503599627370496 := by
  have four : (∃ n m n' m', IsAt a n 4503599627370496 ∧ IsAt b m 4503599627370496 ∧ IsAt c n' 4503599627370496 ∧ IsAt d m' 4503599627370496) ∨ (okB a 4503599627370496 && okB b 4503599627370496 && (okB c 4503599627370496 && okB d 4503599627370496)) = false := by
    rcases both_cases a b 4503599627370496 with ⟨n, m, hn, hm⟩ | h
    · rcases both_cases c d 4503599627370496 with ⟨n', m', hn', hm'⟩ | h
      · exact .inl ⟨n, m, n', m', hn, hm, hn', hm'⟩
      · right; rw [h, Bool.and_false]
    · right; rw [h]; rfl
  rcases four with ⟨n, m, n', m', hn, hm, hn', hm'⟩ | h
  · refine ⟨_, _, _, fun w => plus_yes hn hm hn' hm' w, ?_⟩
    intro u p u' p' hu hp hu' hp' hg
    have e1 : n = u := by have := hu.1; rw [hn.1] at this; injection this
    have e2 : m = p := by have := hp.1; rw [hm.1] at this; injection this
    have e3 : n' = u' := by have := hu'.1; rw [hn'.1] at this; injection this
    have e4 : m' = p' := by have := hp'.1; rw [hm'.1] at this; injection this
    subst e1 e2 e3 e4
    unfold ofR at *
    by_cases hc : -4503599627370496 ≤ n + n' ∧ n + n' ≤ 4503599627370496 ∧ -4503599627370496 ≤ m + m' ∧ m + m' ≤ 4503599627370496
    · rw [if_pos hc]
      exact ⟨isAt_fl _ hc.1 hc.2.1 (by omega), isAt_fl _ hc.2.2.1 hc.2.2.2 (by omega)⟩
    · rw [if_neg hc] at hg; exact absurd hg (by simp)
  · exact ⟨0, 0, 5, fun w => plus_no h w, fun _ _ _ _ _ _ _ _ hg => absurd hg (by omega)⟩

set_option maxHeartbeats 1000000 in
theorem packAdds_walk (a0 : Nat) (a1 : Nat) (a2 : Nat) (a3 : Nat) (a4 : Int) (w0 : (Lit.float .f64 a0).wf = true) (w1 : (Lit.float .f64 a1).wf = true) (w2 : (Lit.float .f64 a2).wf = true) (w3 : (Lit.float .f64 a3).wf = true) (w4 : (Lit.int .i64 a4).wf = true) (w : World) :
    Calls Try.prog 5 #[.float .f64 a0, .float .f64 a1, .float .f64 a2, .float .f64 a3, .int .i64 a4] w fun e w' => e = .returned (.bool true) ∧ Below w.heap.size w w' := by
  clear w0 w1 w2 w3 w4
  obtain ⟨m, c1, J1, h1⟩ := join_any a0 a1 a4
  obtain ⟨n, c2, J2, h2⟩ := join_any a2 a3 a4
  obtain ⟨x, y, g, PL, h3⟩ := plus_any a0 a1 a2 a3
  by_cases hz : c1 = 0 ∧ c2 = 0 ∧ g = 0
  · obtain ⟨rfl, rfl, rfl⟩ := hz
    obtain ⟨hf, u, p, hu, hp, e1, n1⟩ := h1 rfl
    obtain ⟨_, u', p', hu', hp', e2, n2⟩ := h2 rfl
    obtain ⟨i1, i2⟩ := h3 u p u' p' hu hp hu' hp' rfl
    have J3 := join_yes i1 i2 hf
    have hj : joinOf (u + u') (p + p') a4 = (m + n, 0) ∨ joinOf (u + u') (p + p') a4 = (0, 3) := by
      unfold joinOf
      split
      · left; rw [e1, e2, Int.add_mul]; congr 1; omega
      · right; rfl
    have q1 := nearB_true.1 n1
    have q2 := nearB_true.1 n2
    obtain ⟨q3, q4⟩ := q1
    obtain ⟨q5, q6⟩ := q2
    clear h1 h2 h3 hu hp hu' hp' i1 i2 e1 e2 n1 n2 hf
    rcases hj with hj | hj
    all_goals
      rw [hj] at J3
      have J3 := Lib.hid J3
      clear hj
      go_enter Try.func5, Try.ntmps5
      go_wp2_with fail
      refine (awake_any _).mono ?_
      rintro e w1 ⟨rfl, hb1⟩
      go_wp2_with fail
      refine (J1.out _).mono ?_
      rintro e w2 ⟨rfl, hb2⟩
      go_wp2_with fail
      refine (J2.out _).mono ?_
      rintro e w3 ⟨rfl, hb3⟩
      go_wp2_with fail
      refine (PL.out _).mono ?_
      rintro e w4 ⟨rfl, hb4⟩
      go_wp2_with fail
      refine (J3.out _).mono ?_
      rintro e w5 ⟨rfl, hb5⟩
      go_wp2_with fail
      go_ret
      exact ⟨rfl, by repeat (first | exact Below.refl _ _ | assumption | refine below_two ?_ (by assumption))⟩
  · have key : (c1 != 0) = true ∨ ((c1 = 0) ∧ (c2 != 0) = true) ∨ (c1 = 0 ∧ c2 = 0 ∧ (g != 0) = true) := by
      by_cases k1 : c1 = 0
      · by_cases k2 : c2 = 0
        · exact .inr (.inr ⟨k1, k2, by rw [bne_iff_ne]; exact fun h => hz ⟨k1, k2, h⟩⟩)
        · exact .inr (.inl ⟨k1, by rw [bne_iff_ne]; exact k2⟩)
      · exact .inl (by rw [bne_iff_ne]; exact k1)
    clear h1 h2 h3 hz
    rcases key with k | ⟨rfl, k⟩ | ⟨rfl, rfl, k⟩
    all_goals
      go_enter Try.func5, Try.ntmps5
      go_wp2_with fail
      refine (awake_any _).mono ?_
      rintro e w1 ⟨rfl, hb1⟩
      go_wp2_with fail
      refine (J1.out _).mono ?_
      rintro e w2 ⟨rfl, hb2⟩
      go_wp2_with fail
      refine (J2.out _).mono ?_
      rintro e w3 ⟨rfl, hb3⟩
      go_wp2_with fail
      refine (PL.out _).mono ?_
      rintro e w4 ⟨rfl, hb4⟩
      go_wp2_with fail
      go_ret
      exact ⟨rfl, by repeat (first | exact Below.refl _ _ | assumption | refine below_two ?_ (by assumption))⟩
end Go.Proofs.Ytflkkgejcpaepaa
