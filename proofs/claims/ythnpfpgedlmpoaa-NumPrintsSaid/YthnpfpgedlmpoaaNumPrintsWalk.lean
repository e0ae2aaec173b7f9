/- The walk of the law NumPrints. -/
import Derived.Test.YthnpfpgedlmpoaaNumAwake
import Derived.Test.YthnpfpgedlmpoaaNumRef
namespace Go.Proofs.Ythnpfpgedlmpoaa
open Go.RowKit Punnet.Num

theorem printB_le {n : Int} (h0 : -9223372036854775808 ≤ n) (h1 : n ≤ 9223372036854775807) : (printB n).size ≤ 20 := by
  have := digs_len (abs_lt h0 h1) (by omega)
  rw [printB_size, print_len]
  split <;> omega

set_option maxHeartbeats 400000 in
theorem numPrints_walk (a0 : Int) (a1 : ByteArray) (a2 : ByteArray) (w0 : (Lit.int .i64 a0).wf = true) (w1 : a1.size ≤ maxLen) (w2 : a2.size ≤ maxLen) (w : World) :
    Calls Try.prog 4 #[.int .i64 a0, .string a1, .string a2] w fun e w' => e = .returned (.bool true) ∧ Below w.heap.size w w' := by
  obtain ⟨l0, u0⟩ := i64_of_wf w0
  have hm1 : a1.size ≤ 9223372036854775807 := by unfold maxLen at w1; omega
  have hm2 : a2.size ≤ 9223372036854775807 := by unfold maxLen at w2; omega
  clear w0 w1 w2
  by_cases hl : 500 < a1.size ∨ 500 < a2.size
  · by_cases hl1 : 500 < a1.size
    · have hl' : (500 : Int) < a1.size := by omega
      go_enter Try.func4, Try.ntmps4
      go_wp2_with (go_at_call 6; refine (awake_any _).mono ?_; rintro e w1 ⟨rfl, hb1⟩)
      go_ret
      exact ⟨rfl, hb1⟩
    · have hl' : (a1.size : Int) ≤ 500 := by omega
      have hl2 : (500 : Int) < a2.size := by omega
      go_enter Try.func4, Try.ntmps4
      go_wp2_with (go_at_call 6; refine (awake_any _).mono ?_; rintro e w1 ⟨rfl, hb1⟩)
      go_ret
      exact ⟨rfl, hb1⟩
  · have hl1 : (a1.size : Int) ≤ 500 := by omega
    have hl2 : (a2.size : Int) ≤ 500 := by omega
    have hps := printB_le l0 u0
    have HR := Lib.hid (fun w => read_any (printB a0) w (by unfold maxLen; omega))
    rw [printB_data, print_read l0 u0] at HR
    by_cases hd : ∃ h : 0 < a2.size, 48 ≤ a2[0].toNat ∧ a2[0].toNat ≤ 57
    · obtain ⟨h0, hd1, hd2⟩ := hd
      have h0' : (0 : Int) < a2.size := by omega
      clear hl
      go_enter Try.func4, Try.ntmps4
      go_wp2_with (first | (go_at_call 6; refine (awake_any _).mono ?_; rintro e w1 ⟨rfl, hb1⟩) | (go_at_call 8; refine (HR.out _).mono ?_; rintro e w2 ⟨rfl, hb2⟩) | (go_at_call 7; refine (print_any _ _ (by omega) (by omega)).mono ?_; rintro e w4 ⟨rfl, hb4⟩) | (go_at_call 9; refine (refPrint_any _ _ (by omega) (by omega)).mono ?_; rintro e w5 ⟨rfl, hb5⟩))
      go_ret
      exact ⟨rfl, by repeat (first | exact Below.refl _ _ | assumption | refine below_two ?_ (by assumption))⟩
    · have hnd : ∀ c, a2.data.toList.head? = some c → dig c = false := by
        intro c hc
        rw [List.head?_eq_getElem?] at hc
        obtain ⟨h, rfl⟩ := List.getElem?_eq_some_iff.1 hc
        have h' : 0 < a2.size := by simpa using h
        rw [get_list a2 0 h', dig, decide_eq_false_iff_not]
        exact fun hh => hd ⟨h', hh⟩
      have hscan := print_scan l0 u0 a1.data.toList hnd
      have HS := Lib.hid (fun w => scan_any (a1 ++ printB a0 ++ a2) a1.size w (by simp; unfold maxLen; omega))
      have e1 : (a1 ++ printB a0 ++ a2).data.toList = a1.data.toList ++ print a0 ++ a2.data.toList := by simp [printB_data]
      have e2 : (a1.size : Int) = (a1.data.toList.length : Int) := by simp
      rw [e1, e2, hscan, ← e2, ← printB_size] at HS
      have key : (a2.size = 0) ∨ (∃ h : 0 < a2.size, a2[0].toNat < 48 ∨ 57 < a2[0].toNat) := by
        by_cases h : 0 < a2.size
        · refine .inr ⟨h, ?_⟩
          have : ¬ (48 ≤ a2[0].toNat ∧ a2[0].toNat ≤ 57) := fun hh => hd ⟨h, hh⟩
          omega
        · exact .inl (by omega)
      clear hl hd hnd hscan e1 e2
      have fin : Calls Try.prog 4 #[.int .i64 a0, .string a1, .string a2] w fun e w' => e = .returned (.bool true) ∧ Below w.heap.size w w' := by
        rcases key with hz | ⟨h0, hd | hd⟩
        · have hz' : ¬ (0 : Int) < a2.size := by omega
          clear hz
          go_enter Try.func4, Try.ntmps4
          go_wp2_with (first | (go_at_call 6; refine (awake_any _).mono ?_; rintro e w1 ⟨rfl, hb1⟩) | (go_at_call 8; refine (HR.out _).mono ?_; rintro e w2 ⟨rfl, hb2⟩) | (go_at_call 7; refine (print_any _ _ (by omega) (by omega)).mono ?_; rintro e w4 ⟨rfl, hb4⟩) | (go_at_call 9; refine (refPrint_any _ _ (by omega) (by omega)).mono ?_; rintro e w5 ⟨rfl, hb5⟩) | (go_at_call 10; refine (HS.out _).mono ?_; rintro e w3 ⟨rfl, hb3⟩))
          go_ret
          exact ⟨rfl, by repeat (first | exact Below.refl _ _ | assumption | refine below_two ?_ (by assumption))⟩
        all_goals
          have h0' : (0 : Int) < a2.size := by omega
          go_enter Try.func4, Try.ntmps4
          go_wp2_with (first | (go_at_call 6; refine (awake_any _).mono ?_; rintro e w1 ⟨rfl, hb1⟩) | (go_at_call 8; refine (HR.out _).mono ?_; rintro e w2 ⟨rfl, hb2⟩) | (go_at_call 7; refine (print_any _ _ (by omega) (by omega)).mono ?_; rintro e w4 ⟨rfl, hb4⟩) | (go_at_call 9; refine (refPrint_any _ _ (by omega) (by omega)).mono ?_; rintro e w5 ⟨rfl, hb5⟩) | (go_at_call 10; refine (HS.out _).mono ?_; rintro e w3 ⟨rfl, hb3⟩))
          go_ret
          exact ⟨rfl, by repeat (first | exact Below.refl _ _ | assumption | refine below_two ?_ (by assumption))⟩
      exact fin
end Go.Proofs.Ythnpfpgedlmpoaa
