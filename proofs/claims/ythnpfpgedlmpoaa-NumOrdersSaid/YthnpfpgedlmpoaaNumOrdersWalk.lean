/- The walk of the law NumOrders. -/
import Derived.Test.YthnpfpgedlmpoaaNumAwake
namespace Go.Proofs.Ythnpfpgedlmpoaa
open Go.RowKit Punnet.Num

theorem printB_pos (n : Int) : 0 < (printB n).size := by
  have := List.length_pos_iff.2 (digs_ne n.natAbs)
  rw [printB_size, print]
  split
  · simp
  · exact this
theorem printB_zero (n : Int) : (printB n)[0]'(printB_pos n) = (print n)[0]'(by rw [← printB_size]; exact printB_pos n) := by
  rw [← get_list]
  have := printB_data n
  simp only [this]
theorem digs_zero (m : Nat) : 48 ≤ ((digs m)[0]'(List.length_pos_iff.2 (digs_ne m))).toNat := (digs_digits m _ (List.getElem_mem _)).1
theorem printB_head (n : Int) : ((((printB n)[0]'(printB_pos n)).toNat : Int) == 45) = decide (n < 0) := by
  rw [printB_zero]
  by_cases h : n < 0
  · simp [print, h]
  · have := digs_zero n.natAbs
    simp only [print, if_neg h, decide_eq_false h]
    rw [beq_eq_false_iff_ne]
    omega

theorem printB_len {a b : Int} (ha : 0 ≤ a) (hb : 0 ≤ b) (h : (printB a).size ≠ (printB b).size) : decide ((printB a).size < (printB b).size) = decide (a < b) := by
  rw [printB_size, printB_size, print, print, if_neg (by omega), if_neg (by omega)] at *
  rw [decide_eq_decide]
  constructor
  · intro h1; have := digs_len_mono h1; omega
  · intro h1
    rcases Nat.lt_or_ge (digs a.natAbs).length (digs b.natAbs).length with h2 | h2
    · exact h2
    · have := digs_len_mono (a := b.natAbs) (b := a.natAbs) (by omega)
      omega
theorem printB_lex {a b : Int} (ha : 0 ≤ a) (hb : 0 ≤ b) (h : (printB a).size = (printB b).size) : Op.bytesLess (printB a).toList (printB b).toList = decide (a < b) := by
  rw [printB_size, printB_size] at h
  rw [Lib.toList_data, Lib.toList_data, printB_data, printB_data]
  rw [print, print, if_neg (by omega), if_neg (by omega)] at *
  rw [digs_lex h, decide_eq_decide]
  omega

set_option maxHeartbeats 400000 in
theorem numOrders_walk (a0 : Int) (a1 : Int) (w0 : (Lit.int .i64 a0).wf = true) (w1 : (Lit.int .i64 a1).wf = true) (w : World) :
    Calls Try.prog 3 #[.int .i64 a0, .int .i64 a1] w fun e w' => e = .returned (.bool true) ∧ Below w.heap.size w w' := by
  obtain ⟨l0, u0⟩ := i64_of_wf w0
  obtain ⟨l1, u1⟩ := i64_of_wf w1
  clear w0 w1
  by_cases h : a0 < 0 ∨ a1 < 0
  · have hp := printB_pos a0
    have hp' : (0 : Int) < (printB a0).size := by omega
    by_cases h0 : a0 < 0
    · have hh := printB_head a0
      rw [decide_eq_true h0] at hh
      clear h
      go_enter Try.func3, Try.ntmps3
      go_wp2_with (first | (go_at_call 6; refine (awake_any _).mono ?_; rintro e w1 ⟨rfl, hb1⟩) | (go_at_call 7; refine (print_any _ _ (by omega) (by omega)).mono ?_; rintro e w2 ⟨rfl, hb2⟩))
      go_ret
      exact ⟨rfl, by repeat (first | exact Below.refl _ _ | assumption | refine below_two ?_ (by assumption))⟩
    · have h1 : a1 < 0 := by omega
      have hh := printB_head a0
      rw [decide_eq_false h0] at hh
      have h0' : 0 ≤ a0 := by omega
      clear h h0
      go_enter Try.func3, Try.ntmps3
      go_wp2_with (first | (go_at_call 6; refine (awake_any _).mono ?_; rintro e w1 ⟨rfl, hb1⟩) | (go_at_call 7; refine (print_any _ _ (by omega) (by omega)).mono ?_; rintro e w2 ⟨rfl, hb2⟩))
      go_ret
      exact ⟨ret_bool (by simp; omega), by repeat (first | exact Below.refl _ _ | assumption | refine below_two ?_ (by assumption))⟩
  · have h0 : 0 ≤ a0 := by omega
    have h1 : 0 ≤ a1 := by omega
    clear h
    by_cases he : (printB a0).size = (printB a1).size
    · have HL := Lib.hid (printB_lex h0 h1 he)
      have hbn : (((printB a0).size : Int) != ((printB a1).size : Int)) = false := by simp [he]
      clear he
      go_enter Try.func3, Try.ntmps3
      go_wp2_with (first | (go_at_call 6; refine (awake_any _).mono ?_; rintro e w1 ⟨rfl, hb1⟩) | (go_at_call 7; refine (print_any _ _ (by omega) (by omega)).mono ?_; rintro e w2 ⟨rfl, hb2⟩))
      go_ret
      refine ⟨?_, by repeat (first | exact Below.refl _ _ | assumption | refine below_two ?_ (by assumption))⟩
      exact ret_bool (by rw [HL.out]; simp)
    · have HL := Lib.hid (printB_len h0 h1 he)
      have hbn : (((printB a0).size : Int) != ((printB a1).size : Int)) = true := by simp; omega
      clear he
      go_enter Try.func3, Try.ntmps3
      go_wp2_with (first | (go_at_call 6; refine (awake_any _).mono ?_; rintro e w1 ⟨rfl, hb1⟩) | (go_at_call 7; refine (print_any _ _ (by omega) (by omega)).mono ?_; rintro e w2 ⟨rfl, hb2⟩))
      go_ret
      refine ⟨?_, by repeat (first | exact Below.refl _ _ | assumption | refine below_two ?_ (by assumption))⟩
      exact ret_bool (by rw [HL.out]; simp)
end Go.Proofs.Ythnpfpgedlmpoaa
