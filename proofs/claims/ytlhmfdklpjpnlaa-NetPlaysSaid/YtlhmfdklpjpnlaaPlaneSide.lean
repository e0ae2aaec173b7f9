/- The walks of plane.Side and of the reference's Side. -/
import Derived.Test.YtlhmfdklpjpnlaaPlaneOf
namespace Go.Proofs.Ytlhmfdklpjpnlaa
open Go.RowKit Punnet.Flt
set_option linter.unusedVariables false

/-- On which side: 1 above, -1 below, 0 on the line. -/
def sideOf (k off : Int) : Int := if off < k then 1 else if k < off then -1 else 0

set_option maxHeartbeats 800000 in
theorem side_yes {a b c d : Nat} {n m n' m' : Int} (ha : IsAt a n 33554432) (hb : IsAt b m 33554432) (hc : IsAt c n' 33554432) (hd : IsAt d m' 33554432) (off : Int) (w : World) :
    Calls Try.prog 27 #[.complex .f64 a b, .int .i64 off, .complex .f64 c d] w fun e w' => e = .returned (.tuple #[.int .i64 (sideOf (n' * n + m' * m) off), .int .i64 0]) ∧ Below w.heap.size w w' := by
  have S1 := Lib.hid (small_any a b)
  have S2 := Lib.hid (small_any c d)
  rw [both_ok ha hb] at S1
  rw [both_ok hc hd] at S2
  have P1 := Lib.hid (parts_yes ha.whole hb.whole)
  have P2 := Lib.hid (parts_yes hc.whole hd.whole)
  obtain ⟨b1, b2⟩ := mul_small hc.2.1 hc.2.2 ha.2.1 ha.2.2
  obtain ⟨b3, b4⟩ := mul_small hd.2.1 hd.2.2 hb.2.1 hb.2.2
  clear ha hb hc hd
  have key : (off < n' * n + m' * m ∧ sideOf (n' * n + m' * m) off = 1) ∨ (¬ off < n' * n + m' * m ∧ n' * n + m' * m < off ∧ sideOf (n' * n + m' * m) off = -1) ∨ (¬ off < n' * n + m' * m ∧ ¬ n' * n + m' * m < off ∧ sideOf (n' * n + m' * m) off = 0) := by
    unfold sideOf
    by_cases h1 : off < n' * n + m' * m
    · exact .inl ⟨h1, if_pos h1⟩
    · by_cases h2 : n' * n + m' * m < off
      · exact .inr (.inl ⟨h1, h2, by rw [if_neg h1, if_pos h2]⟩)
      · exact .inr (.inr ⟨h1, h2, by rw [if_neg h1, if_neg h2]⟩)
  rcases key with ⟨h1, h3⟩ | ⟨h1, h2, h3⟩ | ⟨h1, h2, h3⟩
  all_goals
    have HV := Lib.hid h3
    clear h3
    go_enter Try.func27, Try.ntmps27
    go_wp2_with fail
    refine (S1.out _).mono ?_
    rintro e w1 ⟨rfl, hb1⟩
    go_wp2_with fail
    refine (S2.out _).mono ?_
    rintro e w2 ⟨rfl, hb2⟩
    go_wp2_with fail
    refine (P1.out _).mono ?_
    rintro e w3 ⟨rfl, hb3⟩
    go_wp2_with fail
    refine (P2.out _).mono ?_
    rintro e w4 ⟨rfl, hb4⟩
    go_wp2_with fail
    go_ret2
    exact ⟨by rw [HV.out]; rfl, by repeat (first | exact Below.refl _ _ | assumption | refine below_two ?_ (by assumption))⟩
set_option maxHeartbeats 400000 in
theorem side_no {a b c d : Nat} (h : (okB a 33554432 && okB b 33554432 && (okB c 33554432 && okB d 33554432)) = false) (off : Int) (w : World) :
    Calls Try.prog 27 #[.complex .f64 a b, .int .i64 off, .complex .f64 c d] w fun e w' => e = .returned (.tuple #[.int .i64 0, .int .i64 5]) ∧ Below w.heap.size w w' := by
  have S1 := Lib.hid (small_any a b)
  have S2 := Lib.hid (small_any c d)
  cases h1 : (okB a 33554432 && okB b 33554432) with
  | false =>
    rw [h1] at S1
    clear h h1
    go_enter Try.func27, Try.ntmps27
    go_wp2_with fail
    refine (S1.out _).mono ?_
    rintro e w1 ⟨rfl, hb1⟩
    go_wp2_with fail
    go_ret2
    exact ⟨rfl, hb1⟩
  | true =>
    rw [h1, Bool.true_and] at h
    rw [h1] at S1
    rw [h] at S2
    clear h h1
    go_enter Try.func27, Try.ntmps27
    go_wp2_with fail
    refine (S1.out _).mono ?_
    rintro e w1 ⟨rfl, hb1⟩
    go_wp2_with fail
    refine (S2.out _).mono ?_
    rintro e w2 ⟨rfl, hb2⟩
    go_wp2_with fail
    go_ret2
    exact ⟨rfl, below_two hb1 hb2⟩


end Go.Proofs.Ytlhmfdklpjpnlaa
