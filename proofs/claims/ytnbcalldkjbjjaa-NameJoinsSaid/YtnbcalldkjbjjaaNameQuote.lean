/- The walks of name.Text, Quote, Scan and Unquote, and of the reference's Quote and Scan. -/
import Derived.Test.YtnbcalldkjbjjaaNameOk
import Derived.StillTailTactics
namespace Go.Proofs.Ytnbcalldkjbjjaa
open Go.RowKit Punnet.Name
set_option linter.unusedVariables false

/-- A text's quote. -/
def quoteL (l : List UInt8) : List UInt8 := 34 :: (l.flatMap signOf ++ [34])
/-- A text's quote, up to a place. -/
def quoteTo (s : ByteArray) (k : Nat) : List UInt8 := 34 :: (s.data.toList.take k).flatMap signOf
theorem quoteTo_succ {s : ByteArray} {k : Nat} (h : k < s.size) : quoteTo s (k + 1) = quoteTo s k ++ signOf s[k] := by
  unfold quoteTo
  rw [List.take_succ_eq_append_getElem (by simpa using h), List.flatMap_append, get_data s k h]
  simp
theorem quoteTo_all {s : ByteArray} : quoteTo s s.size ++ [34] = quoteL s.data.toList := by
  unfold quoteTo quoteL
  rw [List.take_of_length_le (by simp)]; rfl
theorem quoteTo_len {s : ByteArray} {k : Nat} (h : k ≤ s.size) : (quoteTo s k).length ≤ 3 * k + 1 := by
  unfold quoteTo
  induction k with
  | zero => simp
  | succ k ih =>
    have h' : k < s.data.toList.length := by simp; omega
    rw [List.take_succ_eq_append_getElem h', List.flatMap_append]
    have := ih (by omega)
    have h3 := signOf_le (s.data.toList[k]'h')
    simp at this ⊢; simp at h3; omega

theorem text_any (s : ByteArray) (w : World) : Calls Try.prog 15 #[.string s] w fun e w' => e = .returned (.bool (decide (s.size ≤ 40))) ∧ w = w' := by
  go_enter Try.func15, Try.ntmps15
  go_wp2_with fail
  go_ret
  exact ⟨ret_bool (by rw [decide_eq_decide]; omega), rfl⟩

set_option maxHeartbeats 1000000 in
theorem refQuote_any (s : ByteArray) (w : World) (hs : s.size ≤ 16777216) : Calls Try.prog 12 #[.string s] w fun e w' => e = .returned (.string ⟨(quoteL s.data.toList).toArray⟩) ∧ Below w.heap.size w w' := by
  go_enter Try.func12, Try.ntmps12
  go_wp2_with fail
  go_loopw [3, 4] (fun q i wr => ∃ k : Nat, k ≤ s.size ∧ i = .int .i64 (k : Int) ∧ q = .string ⟨(quoteTo s k).toArray⟩ ∧ Below w.heap.size w wr) (fun _ i _ => s.size - (intOf i).toNat)
  case atStart => exact ⟨0, by omega, rfl, rfl, Below.refl _ _⟩
  case round =>
    obtain ⟨k, hk, rfl, rfl, hb⟩ := hrel
    by_cases hlt : k < s.size
    · have hlt' : (k : Int) < s.size := by omega
      have HC : Hid ((⟨(quoteTo s (k + 1)).toArray⟩ : ByteArray) = ⟨(quoteTo s k).toArray⟩ ++ byteB s[k]) := by
        show _ = _
        rw [quoteTo_succ hlt, ByteArray.ext_iff, ByteArray.data_append]; simp [byteB]
      have hz : (⟨(quoteTo s k).toArray⟩ : ByteArray).size ≤ 50331649 := by have := quoteTo_len (s := s) (k := k) (by omega); simp [ByteArray.size]; omega
      have hz3 : (byteB s[k]).size ≤ 3 := by rw [byteB_size]; exact signOf_le _
      generalize hq : (⟨(quoteTo s k).toArray⟩ : ByteArray) = q at *
      have HQ := Lib.hid hq
      clear hq
      go_wp2_with fail
      refine (byte_any _ _).mono ?_
      rintro e w1 ⟨rfl, hb1⟩
      go_wp2_with fail
      go_roundw
      case rel => exact ⟨k + 1, by omega, by go_num, by rw [HC.out], hb.trans (hb1.mono hb.size)⟩
      case measure => simp [intOf]; omega
    · have hlt' : ¬ (k : Int) < s.size := by omega
      have HC : Hid ((⟨(quoteL s.data.toList).toArray⟩ : ByteArray) = ⟨(quoteTo s k).toArray⟩ ++ ⟨#[34]⟩) := by
        show _ = _
        rw [← quoteTo_all, show k = s.size by omega, ByteArray.ext_iff, ByteArray.data_append]; simp
      have hz : (⟨(quoteTo s k).toArray⟩ : ByteArray).size ≤ 50331649 := by have := quoteTo_len (s := s) (k := k) (by omega); simp [ByteArray.size]; omega
      generalize hq : (⟨(quoteTo s k).toArray⟩ : ByteArray) = q at *
      have HQ := Lib.hid hq
      clear hq
      go_wp2_with fail
      go_ret
      exact ⟨congrArg Ending.returned (congrArg Value.string HC.out.symm), hb⟩
end Go.Proofs.Ytnbcalldkjbjjaa
