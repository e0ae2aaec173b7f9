/- The walk of the law NameScans. -/
import Derived.Test.YtnbcalldkjbjjaaNameAwake
namespace Go.Proofs.Ytnbcalldkjbjjaa
open Go.RowKit Punnet.Name
set_option linter.unusedVariables false

theorem scan_bad {s : ByteArray} {i : Int} {t : ByteArray} {n : Nat} {c : Int} (h : scanOf s i = (t, n, c)) (hc : c ≠ 0) : t = ⟨#[]⟩ := by
  unfold scanOf at h
  split at h
  · injection h with h1 _; exact h1.symm
  · split at h
    · injection h with h1 _; exact h1.symm
    · split at h
      · injection h with h1 _; exact h1.symm
      · injection h with _ h2; injection h2 with _ h3; exact absurd h3.symm hc
theorem scan_good {s : ByteArray} {i : Int} {t : ByteArray} {n : Nat} (h : scanOf s i = (t, n, 0)) : ∃ (k : Nat) (l : List UInt8), i = k ∧ t = ⟨l.toArray⟩ ∧ l.length ≤ 40 ∧ k ≤ n ∧ n ≤ s.size ∧ s.extract k n = ⟨(quoteL l).toArray⟩ := by
  unfold scanOf at h
  split at h
  · injection h with _ h2; injection h2 with _ h3; cases h3
  · rename_i hi
    split at h
    · injection h with _ h2; injection h2 with _ h3; cases h3
    · rename_i l m hq
      split at h
      · injection h with _ h2; injection h2 with _ h3; cases h3
      · injection h with h1 h2; injection h2 with h2 _
        subst h2
        have hlen : s.data.toList.length = s.size := by simp
        have hb := quotedAt_le hq
        obtain ⟨h3, h4⟩ := quotedAt_inv hq
        refine ⟨i.toNat, l, by omega, h1.symm, by omega, by omega, by omega, ?_⟩
        rw [ByteArray.ext_iff, ← Array.toList_inj, Lib.extract_data, h3, h4]
        simp

set_option maxHeartbeats 4000000 in
theorem nameScans_walk (a0 : ByteArray) (a1 : Int) (w0 : a0.size ≤ maxLen) (w1 : (Lit.int .i64 a1).wf = true) (w : World) :
    Calls Try.prog 6 #[.string a0, .int .i64 a1] w fun e w' => e = .returned (.bool true) ∧ Below w.heap.size w w' := by
  have wi := i64_of_wf w1
  unfold maxLen at w0
  clear w1
  by_cases hs : 500 < a0.size
  · have hs' : (500 : Int) < a0.size := by omega
    go_enter Try.func6, Try.ntmps6
    go_wp2_with fail
    refine (nameAwake_any _).mono ?_
    rintro e w1 ⟨rfl, hb1⟩
    go_wp2_with fail
    go_ret
    exact ⟨rfl, hb1⟩
  have hs' : ¬ (500 : Int) < a0.size := by omega
  have hs2 : a0.size ≤ 16777216 := by omega
  obtain ⟨t, n, c, hsc⟩ : ∃ t n c, scanOf a0 a1 = (t, n, c) := ⟨_, _, _, rfl⟩
  obtain ⟨y, m, h, hs0⟩ : ∃ t n c, scanOf a0 0 = (t, n, c) := ⟨_, _, _, rfl⟩
  have S1 := Lib.hid (fun w => scan_any a0 a1 w hs2 wi)
  have R1 := Lib.hid (fun w => refScan_any a0 a1 w hs2 wi)
  have R0 := Lib.hid (fun w => refScan_any a0 0 w hs2 (by omega))
  have U := Lib.hid (fun w => unquote_any a0 w hs2)
  have hu : unquoteOf a0 = if h = 0 then (if m = a0.size then (y, 0) else (⟨#[]⟩, 4)) else (⟨#[]⟩, h) := by unfold unquoteOf; rw [hs0]
  rw [hsc] at S1 R1
  rw [hs0] at R0
  simp only [scanV] at S1 R1 R0
  have key : (h = 0 ∧ m = a0.size ∧ unquoteOf a0 = (y, 0)) ∨ (h = 0 ∧ ((m : Int) != (a0.size : Int)) = true ∧ unquoteOf a0 = (⟨#[]⟩, 4)) ∨ ((h == 0) = false ∧ y = ⟨#[]⟩ ∧ unquoteOf a0 = (⟨#[]⟩, h)) := by
    by_cases h0 : h = 0
    · rw [if_pos h0] at hu
      by_cases hm : m = a0.size
      · rw [if_pos hm] at hu; exact .inl ⟨h0, hm, hu⟩
      · rw [if_neg hm] at hu; exact .inr (.inl ⟨h0, bne_iff_ne.2 (by omega), hu⟩)
    · rw [if_neg h0] at hu; exact .inr (.inr ⟨beq_eq_false_iff_ne.2 h0, scan_bad hs0 h0, hu⟩)
  have key2 : (c != 0) = true ∨ (c = 0 ∧ ∃ (k : Nat) (l : List UInt8), a1 = k ∧ t = ⟨l.toArray⟩ ∧ l.length ≤ 40 ∧ k ≤ n ∧ n ≤ a0.size ∧ a0.extract k n = ⟨(quoteL l).toArray⟩) := by
    by_cases h0 : c = 0
    · subst h0; exact .inr ⟨rfl, scan_good hsc⟩
    · exact .inl (bne_iff_ne.2 h0)
  clear hu hsc hs0 hs
  rcases key2 with kc | ⟨rfl, k, l, rfl, rfl, hl, hkn, hn, hx⟩
  · rcases key with ⟨rfl, rfl, hu⟩ | ⟨rfl, hm, hu⟩ | ⟨hh, rfl, hu⟩
    all_goals
      rw [hu] at U
      clear hu
      go_enter Try.func6, Try.ntmps6
      go_wp2_with fail
      refine (nameAwake_any _).mono ?_
      rintro e w1 ⟨rfl, hb1⟩
      go_wp2_with fail
      refine (S1.out _).mono ?_
      rintro e w2 ⟨rfl, hb2⟩
      go_wp2_with fail
      refine (R1.out _).mono ?_
      rintro e w3 ⟨rfl, hb3⟩
      go_wp2_with fail
      refine (U.out _).mono ?_
      rintro e w4 ⟨rfl, hb4⟩
      go_wp2_with fail
      refine (R0.out _).mono ?_
      rintro e w5 ⟨rfl, hb5⟩
      go_wp2_with fail
      go_ret
      exact ⟨rfl, by repeat (first | exact Below.refl _ _ | assumption | refine below_two ?_ (by assumption))⟩
  · have Q := Lib.hid (fun w => quote_go ⟨l.toArray⟩ w (by simp [ByteArray.size]; omega))
    rw [show (⟨l.toArray⟩ : ByteArray).data.toList = l by simp, ← hx] at Q
    clear hx
    generalize (⟨l.toArray⟩ : ByteArray) = tb at *
    rcases key with ⟨rfl, rfl, hu⟩ | ⟨rfl, hm, hu⟩ | ⟨hh, rfl, hu⟩
    all_goals
      rw [hu] at U
      clear hu
      go_enter Try.func6, Try.ntmps6
      go_wp2_with fail
      refine (nameAwake_any _).mono ?_
      rintro e w1 ⟨rfl, hb1⟩
      go_wp2_with fail
      refine (S1.out _).mono ?_
      rintro e w2 ⟨rfl, hb2⟩
      go_wp2_with fail
      refine (R1.out _).mono ?_
      rintro e w3 ⟨rfl, hb3⟩
      go_wp2_with fail
      refine (U.out _).mono ?_
      rintro e w4 ⟨rfl, hb4⟩
      go_wp2_with fail
      refine (R0.out _).mono ?_
      rintro e w5 ⟨rfl, hb5⟩
      go_wp2_with fail
      refine (Q.out _).mono ?_
      rintro e w6 ⟨rfl, hb6⟩
      go_wp2_with fail
      go_ret
      exact ⟨rfl, by repeat (first | exact Below.refl _ _ | assumption | refine below_two ?_ (by assumption))⟩
end Go.Proofs.Ytnbcalldkjbjjaa
