/- The walks of num.Read and num.Scan. -/
import Derived.Test.YthnpfpgedlmpoaaNumValue
namespace Go.Proofs.Ythnpfpgedlmpoaa
open Go.RowKit Punnet.Num

theorem ret3_i64 {a b c a' b' c' : Int} (h : (a, b, c) = (a', b', c')) : Ending.returned (.tuple #[.int .i64 a, .int .i64 b, .int .i64 c]) = .returned (.tuple #[.int .i64 a', .int .i64 b', .int .i64 c']) := by
  injection h with h1 h2; injection h2 with h2 h3; rw [h1, h2, h3]

set_option maxHeartbeats 400000 in
theorem read_any (s : ByteArray) (w : World) (hs : s.size ≤ maxLen) :
    Calls Try.prog 8 #[.string s] w fun e w' => e = .returned (.tuple #[.int .i64 (readOf s.data.toList).1, .int .i64 (readOf s.data.toList).2]) ∧ Below w.heap.size w w' := by
  have hlen : s.data.toList.length = s.size := by simp
  have HP := Lib.hid (piece_any s w hs)
  have HR := Lib.hid (show readOf s.data.toList = if pieceLen s.data.toList = 0 ∨ pieceLen s.data.toList ≠ s.size then (0, 4) else valueOf s.data.toList by rw [readOf, hlen])
  have HA := Lib.hid (fun w1 => value_any s w1 hs)
  have hm : s.size ≤ 9223372036854775807 := by unfold maxLen at hs; omega
  have hle : pieceLen s.data.toList ≤ s.size := by rw [← hlen]; exact pieceLen_le _
  clear hlen hs
  generalize readOf s.data.toList = R at *
  generalize hv : valueOf s.data.toList = v at *
  have HV := Lib.hid hv
  clear hv
  generalize hp : pieceLen s.data.toList = p at *
  have HPE := Lib.hid hp
  clear hp
  by_cases h0 : p = 0
  · have HR' := Lib.hid (HR.out.trans (if_pos (.inl h0)))
    subst h0
    go_enter Try.func8, Try.ntmps8
    go_wp2_with (go_at_call 13; refine HP.out.mono ?_; rintro e w1 ⟨rfl, hb1⟩)
    go_ret2
    exact ⟨ret2_i64 (by rw [HR'.out]), hb1⟩
  · have b0 : ((p : Int) == 0) = false := by simp; omega
    by_cases h1 : p = s.size
    · have HR' := Lib.hid (HR.out.trans (if_neg (by omega)))
      have b1 : ((p : Int) != (s.size : Int)) = false := by simp; omega
      have H0 : 0 < s.size := by omega
      have HA' := Lib.hid (fun w1 => HA.out w1 H0 h1)
      clear h1 HA
      go_enter Try.func8, Try.ntmps8
      go_wp2_with (first | (go_at_call 13; refine HP.out.mono ?_; rintro e w1 ⟨rfl, hb1⟩) | (go_at_call 14; refine (HA'.out _).mono ?_; rintro e w2 ⟨rfl, hb2⟩))
      go_ret2
      exact ⟨ret2_i64 (by rw [HR'.out]), below_two hb1 hb2⟩
    · have HR' := Lib.hid (HR.out.trans (if_pos (.inr h1)))
      have b1 : ((p : Int) != (s.size : Int)) = true := by simp; omega
      clear h1
      go_enter Try.func8, Try.ntmps8
      go_wp2_with (go_at_call 13; refine HP.out.mono ?_; rintro e w1 ⟨rfl, hb1⟩)
      go_ret2
      exact ⟨ret2_i64 (by rw [HR'.out]), hb1⟩

set_option maxHeartbeats 400000 in
theorem scan_out (s : ByteArray) (a : Int) (w : World) (h : a < 0 ∨ (s.size : Int) < a) :
    Calls Try.prog 10 #[.string s, .int .i64 a] w fun e w' => e = .returned (.tuple #[.int .i64 0, .int .i64 0, .int .i64 2]) ∧ Below w.heap.size w w' := by
  rcases h with h | h
  · go_enter Try.func10, Try.ntmps10
    go_wp2
    go_ret3
    exact ⟨rfl, Below.refl _ _⟩
  · have h' : ¬ a < 0 := by omega
    go_enter Try.func10, Try.ntmps10
    go_wp2
    go_ret3
    exact ⟨rfl, Below.refl _ _⟩

theorem extract_extract_data (s : ByteArray) (a n : Nat) : (s.extract a (a + n)).data.toList = ((s.extract a s.size).data.toList).take n := by
  rw [Lib.extract_to_end, Lib.extract_data]; congr 1; omega

set_option maxHeartbeats 400000 in
theorem scan_at (s : ByteArray) (a : Nat) (w : World) (hs : s.size ≤ maxLen) (h : a ≤ s.size) :
    Calls Try.prog 10 #[.string s, .int .i64 a] w fun e w' => e = .returned (.tuple #[.int .i64 (scanOf s.data.toList a).1, .int .i64 (scanOf s.data.toList a).2.1, .int .i64 (scanOf s.data.toList a).2.2]) ∧ Below w.heap.size w w' := by
  have hm : s.size ≤ 9223372036854775807 := by unfold maxLen at hs; omega
  have hlen : s.data.toList.length = s.size := by simp
  have hsz : (s.extract a s.size).size = s.size - a := by simp
  have HP := Lib.hid (piece_any (s.extract a s.size) w (by rw [hsz]; unfold maxLen; omega))
  have hle : a + pieceLen (s.extract a s.size).data.toList ≤ s.size := by
    have := pieceLen_le (s.extract a s.size).data.toList
    have h2 : (s.extract a s.size).data.toList.length = (s.extract a s.size).size := by simp
    rw [h2, hsz] at this
    omega
  have hpt := pieceLen_take (s.extract a s.size).data.toList
  rw [← extract_extract_data] at hpt
  have HA := Lib.hid (fun w1 h0 h1 => value_any (s.extract a (a + pieceLen (s.extract a s.size).data.toList)) w1 (by simp; omega) h0 h1)
  have HS := Lib.hid (show scanOf s.data.toList a = if pieceLen (s.extract a s.size).data.toList = 0 then (0, 0, 4)
      else if (valueOf (s.extract a (a + pieceLen (s.extract a s.size).data.toList)).data.toList).2 ≠ 0 then (0, 0, (valueOf (s.extract a (a + pieceLen (s.extract a s.size).data.toList)).data.toList).2)
      else ((valueOf (s.extract a (a + pieceLen (s.extract a s.size).data.toList)).data.toList).1, (a : Int) + pieceLen (s.extract a s.size).data.toList, 0) by
    rw [scanOf, if_neg (by rw [hlen]; omega), extract_extract_data, Lib.extract_to_end, Int.toNat_natCast])
  generalize scanOf s.data.toList a = R at *
  generalize pieceLen (s.extract a s.size).data.toList = p at *
  have ha : ¬ (a : Int) < 0 := by omega
  have ha' : (a : Int) ≤ s.size := by omega
  clear hlen hsz hs
  by_cases h0 : p = 0
  · have HS' := Lib.hid (HS.out.trans (if_pos h0))
    subst h0
    clear hpt HA HS
    go_enter Try.func10, Try.ntmps10
    go_wp2_with (go_at_call 13; refine HP.out.mono ?_; rintro e w1 ⟨rfl, hb1⟩)
    go_ret3
    exact ⟨ret3_i64 (by rw [HS'.out]), hb1⟩
  · have HS' := HS.out.trans (if_neg h0)
    have b0 : ((p : Int) == 0) = false := by simp; omega
    have hb : (a : Int) + p ≤ s.size := by omega
    have HA' := Lib.hid (fun w1 => HA.out w1 (by simp; omega) (by rw [hpt]; simp; omega))
    generalize valueOf (s.extract a (a + p)).data.toList = v at *
    obtain ⟨v1, v2⟩ := v
    clear hpt HA HS
    by_cases h2 : v2 = 0
    · have HS2 := Lib.hid (HS'.trans (if_neg (by simp [h2])))
      subst h2
      clear HS'
      go_enter Try.func10, Try.ntmps10
      go_wp2_with (first | (go_at_call 13; refine HP.out.mono ?_; rintro e w1 ⟨rfl, hb1⟩) | (go_at_call 14; refine (HA'.out _).mono ?_; rintro e w2 ⟨rfl, hb2⟩))
      go_ret3
      exact ⟨ret3_i64 (by rw [HS2.out]), below_two hb1 hb2⟩
    · have HS2 := Lib.hid (HS'.trans (if_pos h2))
      have b2 : (v2 != 0) = true := by simp [h2]
      clear HS' h2
      go_enter Try.func10, Try.ntmps10
      go_wp2_with (first | (go_at_call 13; refine HP.out.mono ?_; rintro e w1 ⟨rfl, hb1⟩) | (go_at_call 14; refine (HA'.out _).mono ?_; rintro e w2 ⟨rfl, hb2⟩))
      go_ret3
      exact ⟨ret3_i64 (by rw [HS2.out]), below_two hb1 hb2⟩

/-- num.Scan, at any place of any text. -/
theorem scan_any (s : ByteArray) (a : Int) (w : World) (hs : s.size ≤ maxLen) :
    Calls Try.prog 10 #[.string s, .int .i64 a] w fun e w' => e = .returned (.tuple #[.int .i64 (scanOf s.data.toList a).1, .int .i64 (scanOf s.data.toList a).2.1, .int .i64 (scanOf s.data.toList a).2.2]) ∧ Below w.heap.size w w' := by
  by_cases h : a < 0 ∨ (s.size : Int) < a
  · have : scanOf s.data.toList a = (0, 0, 2) := by rw [scanOf]; exact if_pos (by simpa using h)
    rw [this]
    exact scan_out s a w h
  · obtain ⟨n, rfl⟩ : ∃ n : Nat, a = n := ⟨a.toNat, by omega⟩
    exact scan_at s n w hs (by omega)

end Go.Proofs.Ythnpfpgedlmpoaa
