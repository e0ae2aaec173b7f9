/- The walk of the law NameQuotes. -/
import Derived.Test.YtnbcalldkjbjjaaNameAwake
namespace Go.Proofs.Ytnbcalldkjbjjaa
open Go.RowKit Punnet.Name
set_option linter.unusedVariables false

theorem scan_quote {s a b : ByteArray} (hs : s.size ≤ 40) : scanOf (a ++ ⟨(quoteL s.data.toList).toArray⟩ ++ b) (a.size : Int) = (s, a.size + (⟨(quoteL s.data.toList).toArray⟩ : ByteArray).size, 0) := by
  have hd : (a ++ ⟨(quoteL s.data.toList).toArray⟩ ++ b : ByteArray).data.toList = a.data.toList ++ (quoteL s.data.toList ++ b.data.toList) := by
    rw [ByteArray.data_append, ByteArray.data_append]; simp
  have ha : a.data.toList.length = a.size := by simp
  have hsl : s.data.toList.length = s.size := by simp
  have hq := quotedAt_quote (l := (a ++ ⟨(quoteL s.data.toList).toArray⟩ ++ b : ByteArray).data.toList) (r := b.data.toList) s.data.toList a.size (by rw [hd, ← ha, List.drop_left])
  have hk : a.size ≤ (a ++ ⟨(quoteL s.data.toList).toArray⟩ ++ b : ByteArray).size := by simp only [ByteArray.size_append]; omega
  have hz : (⟨(quoteL s.data.toList).toArray⟩ : ByteArray).size = (quoteL s.data.toList).length := by simp [ByteArray.size]
  rw [scanOf_fine hk hq (by omega), hz]
theorem quote_size {s : ByteArray} (hs : s.size ≤ 40) : (⟨(quoteL s.data.toList).toArray⟩ : ByteArray).size ≤ 200 := by
  have h := quoteTo_len (s := s) (k := s.size) (Nat.le_refl _)
  have hz : (⟨(quoteL s.data.toList).toArray⟩ : ByteArray).size = (quoteL s.data.toList).length := by simp [ByteArray.size]
  rw [hz, ← quoteTo_all, List.length_append, List.length_singleton]; omega
theorem unq_quote {s : ByteArray} (hs : s.size ≤ 40) : unquoteOf ⟨(quoteL s.data.toList).toArray⟩ = (s, 0) := by
  have h := scan_quote (s := s) (a := ⟨#[]⟩) (b := ⟨#[]⟩) hs
  have e : (⟨#[]⟩ ++ ⟨(quoteL s.data.toList).toArray⟩ ++ ⟨#[]⟩ : ByteArray) = ⟨(quoteL s.data.toList).toArray⟩ := by rw [ByteArray.ext_iff, ByteArray.data_append, ByteArray.data_append]; simp
  rw [e] at h
  have h0 : ((⟨#[]⟩ : ByteArray).size : Int) = 0 := rfl
  rw [h0] at h
  unfold unquoteOf
  rw [h]
  simp [ByteArray.size]

set_option maxHeartbeats 4000000 in
theorem nameQuotes_walk (a0 : ByteArray) (a1 : ByteArray) (a2 : ByteArray) (w0 : a0.size ≤ maxLen) (w1 : a1.size ≤ maxLen) (w2 : a2.size ≤ maxLen) (w : World) :
    Calls Try.prog 5 #[.string a0, .string a1, .string a2] w fun e w' => e = .returned (.bool true) ∧ Below w.heap.size w w' := by
  unfold maxLen at w0 w1 w2
  have hc : (500 : Int) < a0.size ∨ (¬ (500 : Int) < a0.size ∧ (500 : Int) < a1.size) ∨ (¬ (500 : Int) < a0.size ∧ ¬ (500 : Int) < a1.size ∧ (500 : Int) < a2.size) ∨ (¬ (500 : Int) < a0.size ∧ ¬ (500 : Int) < a1.size ∧ ¬ (500 : Int) < a2.size) := by omega
  rcases hc with h1 | ⟨h1, h2⟩ | ⟨h1, h2, h3⟩ | ⟨h1, h2, h3⟩
  · go_enter Try.func5, Try.ntmps5
    go_wp2_with fail
    refine (nameAwake_any _).mono ?_
    rintro e w1 ⟨rfl, hb1⟩
    go_wp2_with fail
    go_ret
    exact ⟨rfl, hb1⟩
  · go_enter Try.func5, Try.ntmps5
    go_wp2_with fail
    refine (nameAwake_any _).mono ?_
    rintro e w1 ⟨rfl, hb1⟩
    go_wp2_with fail
    go_ret
    exact ⟨rfl, hb1⟩
  · go_enter Try.func5, Try.ntmps5
    go_wp2_with fail
    refine (nameAwake_any _).mono ?_
    rintro e w1 ⟨rfl, hb1⟩
    go_wp2_with fail
    go_ret
    exact ⟨rfl, hb1⟩
  have hs2 : a0.size ≤ 16777216 := by omega
  have N1 := Lib.hid (fun w => name_any a0 w hs2)
  have N2 := Lib.hid (fun w => refName_any a0 w hs2)
  have T := Lib.hid (fun w => text_any a0 w)
  generalize nameOk a0 = nb at *
  by_cases h40 : 40 < a0.size
  · have h40' : (40 : Int) < a0.size := by omega
    have h40'' : ¬ (a0.size : Int) ≤ 40 := by omega
    have Q := Lib.hid (fun w => quote_long a0 w h40)
    rw [show decide (a0.size ≤ 40) = false by simp; omega] at T
    go_enter Try.func5, Try.ntmps5
    go_wp2_with fail
    refine (nameAwake_any _).mono ?_
    rintro e w1 ⟨rfl, hb1⟩
    go_wp2_with fail
    refine (Q.out _).mono ?_
    rintro e w2 ⟨rfl, hb2⟩
    go_wp2_with fail
    refine (N1.out _).mono ?_
    rintro e w3 ⟨rfl, hb3⟩
    go_wp2_with fail
    refine (N2.out _).mono ?_
    rintro e w4 ⟨rfl, hb4⟩
    go_wp2_with fail
    refine (T.out _).mono ?_
    rintro e w5 ⟨rfl, rfl⟩
    go_wp2_with fail
    go_ret
    exact ⟨rfl, by repeat (first | exact Below.refl _ _ | assumption | refine below_two ?_ (by assumption))⟩
  · have h40' : ¬ (40 : Int) < a0.size := by omega
    have h40'' : (a0.size : Int) ≤ 40 := by omega
    have hs40 : a0.size ≤ 40 := by omega
    have Q := Lib.hid (fun w => quote_go a0 w hs40)
    have hqs := quote_size hs40
    have U := Lib.hid (fun w => unquote_any ⟨(quoteL a0.data.toList).toArray⟩ w (by omega))
    rw [unq_quote hs40] at U
    have S := Lib.hid (fun w => scan_any (a1 ++ ⟨(quoteL a0.data.toList).toArray⟩ ++ a2) (a1.size : Int) w (by simp only [ByteArray.size_append]; omega) (by omega))
    rw [scan_quote hs40] at S
    have R := Lib.hid (fun w => refQuote_any a0 w hs2)
    rw [show decide (a0.size ≤ 40) = true by simp; omega] at T
    generalize (⟨(quoteL a0.data.toList).toArray⟩ : ByteArray) = q at *
    simp only [scanV] at S
    rw [show (((a1.size + q.size : Nat)) : Int) = (a1.size : Int) + (q.size : Int) by omega] at S
    go_enter Try.func5, Try.ntmps5
    go_wp2_with fail
    refine (nameAwake_any _).mono ?_
    rintro e w1 ⟨rfl, hb1⟩
    go_wp2_with fail
    refine (Q.out _).mono ?_
    rintro e w2 ⟨rfl, hb2⟩
    go_wp2_with fail
    refine (N1.out _).mono ?_
    rintro e w3 ⟨rfl, hb3⟩
    go_wp2_with fail
    refine (N2.out _).mono ?_
    rintro e w4 ⟨rfl, hb4⟩
    go_wp2_with fail
    refine (T.out _).mono ?_
    rintro e w5 ⟨rfl, rfl⟩
    go_wp2_with fail
    refine (U.out _).mono ?_
    rintro e w6 ⟨rfl, hb6⟩
    go_wp2_with fail
    refine (S.out _).mono ?_
    rintro e w7 ⟨rfl, hb7⟩
    go_wp2_with fail
    refine (R.out _).mono ?_
    rintro e w8 ⟨rfl, hb8⟩
    go_wp2_with fail
    go_ret
    exact ⟨rfl, by repeat (first | exact Below.refl _ _ | assumption | refine below_two ?_ (by assumption))⟩
end Go.Proofs.Ytnbcalldkjbjjaa
