/- The walks of the reference's Print, Word, less. -/
import Derived.Test.YthnpfpgedlmpoaaNumScan
import Derived.Test.YthnpfpgedlmpoaaNumLaw
namespace Go.Proofs.Ythnpfpgedlmpoaa
open Go.RowKit Punnet.Num

theorem conv_one (W : World) (d : UInt8) (z : Int) (hz : z = d.toNat) (t : TypeId) :
    (convert 34 9 (.slice (some ⟨W.heap.size, 0, none⟩) 1 1)).run Try.prog (W.alloc (.cells #[.int .u8 z] t)) = .ok (.string ⟨#[d]⟩) (W.alloc (.cells #[.int .u8 z] t)) := by
  subst hz
  refine run_convert_bytes_back _ 34 9 5 _ _ [d] Try.underlying34 Try.underlying5 Try.underlying9 fun j hj => ?_
  obtain rfl : j = 0 := by simpa using hj
  exact World.cell?_alloc_new _ _ _ _

theorem digit_nat' (m : Nat) : (48 + (m : Int) % 10) = ((UInt8.ofNat (48 + m % 10)).toNat : Int) := by
  rw [UInt8.toNat_ofNat']
  omega
theorem abs_lt {n : Int} (h0 : -9223372036854775808 ≤ n) (h1 : n ≤ 9223372036854775807) : n.natAbs < 10 ^ 19 := by
  have : n.natAbs ≤ 9223372036854775808 := by omega
  exact Nat.lt_of_le_of_lt this (by decide)

theorem refPrint_zero (w : World) : Calls Try.prog 9 #[.int .i64 0] w fun e w' => e = .returned (.string (printB 0)) ∧ Below w.heap.size w w' := by
  have HZ := Lib.hid (show printB 0 = ⟨#[48]⟩ by rw [printB, print]; simp [digs_small])
  go_enter Try.func9, Try.ntmps9
  go_wp2
  go_ret
  exact ⟨by rw [HZ.out]; rfl, Below.refl _ _⟩

set_option maxHeartbeats 400000 in
theorem refPrint_pos (n : Int) (w : World) (h0 : 0 < n) (h1 : n ≤ 9223372036854775807) :
    Calls Try.prog 9 #[.int .i64 n] w fun e w' => e = .returned (.string (printB n)) ∧ Below w.heap.size w w' := by
  have hn0 : (n == 0) = false := by simp; omega
  go_enter Try.func9, Try.ntmps9
  go_wp2
  go_loopw [3, 4] (fun s l wr => ∃ (L : Nat) (tail : List UInt8), l = .int .i64 L ∧ s = .string ⟨tail.toArray⟩ ∧ L ≤ 9223372036854775807 ∧ LeftOf n.natAbs L tail ∧ Below w.heap.size w wr) (fun _ l _ => (intOf l).toNat)
  case atStart => exact ⟨n.natAbs, [], by rw [show ((n.natAbs : Nat) : Int) = n by omega], rfl, by omega, LeftOf.start (by omega), Below.refl _ _⟩
  case round =>
    obtain ⟨L, tail, rfl, rfl, hL, hd, hb⟩ := hrel
    have htl := hd.len (abs_lt (by omega) h1) (by omega)
    have htl' : ¬ 9223372036854775807 < 1 + tail.length := by omega
    by_cases hz : L = 0
    · subst hz
      have HD := Lib.hid hd.done
      clear hd
      go_wp2
      go_ret
      refine ⟨?_, hb⟩
      rw [printB, print, if_neg (by omega), HD.out]
      rfl
    · have hz' : ((L : Int) != 0) = true := by simp; omega
      have hcv := fun W t => conv_one W (UInt8.ofNat (48 + L % 10)) (48 + (L : Int) % 10) (digit_nat' L) t
      have HD := Lib.hid (hd.next hz)
      have hm : 0 ≤ (L : Int) % 10 := by omega
      clear hd
      generalize UInt8.ofNat (48 + L % 10) = d at *
      go_wp2
      go_roundw
      case rel => exact ⟨L / 10, d :: tail, by go_num, rfl, by omega, HD.out, hb.alloc hb.size _⟩
      case measure => simp [intOf]; omega

theorem neg_digit (L : Nat) (h : L ≤ 9223372036854775808) : wrap64 ((-(L : Int)).tmod 10) = -((L % 10 : Nat) : Int) := by
  rw [Int.neg_tmod, show (L : Int).tmod 10 = ((L % 10 : Nat) : Int) from rfl]
  simp only [wrap64]
  omega
theorem neg_rest (L : Nat) (h : L ≤ 9223372036854775808) : wrap64 ((-(L : Int)).tdiv 10) = -((L / 10 : Nat) : Int) := by
  rw [Int.neg_tdiv, show (L : Int).tdiv 10 = ((L / 10 : Nat) : Int) from rfl]
  simp only [wrap64]
  omega

set_option maxHeartbeats 400000 in
theorem refPrint_neg (n : Int) (w : World) (h0 : n < 0) (h1 : -9223372036854775808 ≤ n) :
    Calls Try.prog 9 #[.int .i64 n] w fun e w' => e = .returned (.string (printB n)) ∧ Below w.heap.size w w' := by
  have hn0 : (n == 0) = false := by simp; omega
  go_enter Try.func9, Try.ntmps9
  go_wp2
  go_loopw [3, 4] (fun s l wr => ∃ (L : Nat) (tail : List UInt8), l = .int .i64 (-(L : Int)) ∧ s = .string ⟨tail.toArray⟩ ∧ L ≤ 9223372036854775808 ∧ LeftOf n.natAbs L tail ∧ Below w.heap.size w wr) (fun _ l _ => (-intOf l).toNat)
  case atStart => exact ⟨n.natAbs, [], by rw [show -((n.natAbs : Nat) : Int) = n by omega], rfl, by omega, LeftOf.start (by omega), Below.refl _ _⟩
  case round =>
    obtain ⟨L, tail, rfl, rfl, hL, hd, hb⟩ := hrel
    have htl := hd.len (abs_lt h1 (by omega)) (by omega)
    have htl' : ¬ 9223372036854775807 < 1 + tail.length := by omega
    by_cases hz : L = 0
    · subst hz
      have HD := Lib.hid hd.done
      clear hd
      go_wp2
      go_ret
      refine ⟨?_, hb⟩
      rw [printB, print, if_pos (by omega), HD.out]
      rfl
    · have hz' : (-(L : Int) != 0) = true := by simp; omega
      have hcv := fun W t => conv_one W (UInt8.ofNat (48 + L % 10)) (48 + (L : Int) % 10) (digit_nat' L) t
      have hcv2 : (L : Int) % 10 ≤ 0 → ∀ (W : World) (t : TypeId), (convert 34 9 (.slice (some ⟨W.heap.size, 0, none⟩) 1 1)).run Try.prog (W.alloc (.cells #[.int .u8 (48 + -((L : Int) % 10))] t)) = .ok (.string ⟨#[UInt8.ofNat (48 + L % 10)]⟩) (W.alloc (.cells #[.int .u8 (48 + -((L : Int) % 10))] t)) :=
        fun h W t => conv_one W (UInt8.ofNat (48 + L % 10)) (48 + -((L : Int) % 10)) (by rw [← digit_nat']; omega) t
      have HD := Lib.hid (hd.next hz)
      have hm : 0 ≤ (L : Int) % 10 := by omega
      have e1 := neg_digit L hL
      have e2 := neg_rest L hL
      clear hd
      generalize UInt8.ofNat (48 + L % 10) = d at *
      by_cases h10 : 0 < (L : Int) % 10
      · clear hcv2
        go_wp2
        go_roundw
        case rel => exact ⟨L / 10, d :: tail, by go_num, rfl, by omega, HD.out, hb.alloc hb.size _⟩
        case measure => simp [intOf]; omega
      · have hcv2 := hcv2 (by omega)
        clear hcv
        go_wp2
        go_roundw
        case rel => exact ⟨L / 10, d :: tail, by go_num, rfl, by omega, HD.out, hb.alloc hb.size _⟩
        case measure => simp [intOf]; omega

/-- The reference's Print: the same print. -/
theorem refPrint_any (n : Int) (w : World) (h0 : -9223372036854775808 ≤ n) (h1 : n ≤ 9223372036854775807) :
    Calls Try.prog 9 #[.int .i64 n] w fun e w' => e = .returned (.string (printB n)) ∧ Below w.heap.size w w' := by
  rcases Int.lt_trichotomy n 0 with h | rfl | h
  · exact refPrint_neg n w h h0
  · exact refPrint_zero w
  · exact refPrint_pos n w h h1

theorem all_dig (s : ByteArray) (h : ∀ j (hj : j < s.size), 48 ≤ s[j].toNat ∧ s[j].toNat ≤ 57) : s.data.toList.all dig = true := by
  rw [List.all_eq_true]
  intro b hb
  obtain ⟨j, hj, rfl⟩ := List.getElem_of_mem hb
  rw [get_list s j (by simpa using hj), dig, decide_eq_true_iff]
  exact h j _
theorem not_all_dig (s : ByteArray) (j : Nat) (hj : j < s.size) (h : ¬ (48 ≤ s[j].toNat ∧ s[j].toNat ≤ 57)) : s.data.toList.all dig = false := by
  rw [Bool.eq_false_iff]
  intro ha
  rw [List.all_eq_true] at ha
  have := ha (s.data.toList[j]'(by simpa using hj)) (List.getElem_mem _)
  rw [get_list s j hj, dig, decide_eq_true_iff] at this
  exact h this

theorem wordOf_pos {s : ByteArray} (h0 : 0 < s.size) (hb : s[0].toNat ≠ 45) : wordOf s.data.toList = (s.data.toList.all dig && !(decide (s[0].toNat = 48) && !(s.toList == [48]))) := by
  have hl : 0 < s.data.toList.length := by simpa using h0
  have hn : neg s.data.toList = 0 := neg_of_dig hl (by rw [get_list s 0 h0]; exact hb)
  have hh : s.data.toList.head? = some s[0] := by
    rw [List.head?_eq_getElem?, List.getElem?_eq_getElem hl, get_list s 0 h0]
  have e : (s[0] = 48) ↔ s[0].toNat = 48 := by rw [← UInt8.toNat_inj]; rfl
  have e2 : decide (s.data.toList ≠ [48]) = !(s.toList == [48]) := by
    rw [Lib.toList_data]
    by_cases h : s.data.toList = [48] <;> simp [h]
  simp only [wordOf, hn, List.drop_zero, hh, Option.some.injEq, e, e2, decide_eq_true hl, Bool.true_and]
theorem wordOf_neg {s : ByteArray} (h0 : 0 < s.size) (hb : s[0].toNat = 45) : wordOf s.data.toList = (decide (0 < (s.extract 1 s.size).size) && (s.extract 1 s.size).data.toList.all dig && !(decide ((s.extract 1 s.size).data.toList.head? = some 48))) := by
  have hl : 0 < s.data.toList.length := by simpa using h0
  have hn : neg s.data.toList = 1 := neg_of_minus hl (by rw [get_list s 0 h0]; exact hb)
  have hd : (s.extract 1 s.size).data.toList = s.data.toList.drop 1 := Lib.extract_to_end s 1
  have hsz : decide (1 < s.data.toList.length) = decide (0 < (s.extract 1 s.size).size) := by
    rw [decide_eq_decide]; simp; omega
  have e2 : decide (s.data.toList ≠ [48]) = true := by
    rw [decide_eq_true_iff]
    intro h
    have h1 := get_list s 0 h0
    simp only [h] at h1
    rw [← h1] at hb
    exact absurd (show (48 : UInt8).toNat = 45 from hb) (by decide)
  simp only [wordOf, hn, hd, hsz, e2, Bool.and_true]

set_option maxHeartbeats 400000 in
theorem word_empty (w : World) : Calls Try.prog 15 #[.string ⟨#[]⟩] w fun e w' => e = .returned (.bool false) ∧ w = w' := by
  go_enter Try.func15, Try.ntmps15
  go_wp2
  go_ret
  exact ⟨rfl, rfl⟩

set_option maxHeartbeats 800000 in
theorem word_pos (s : ByteArray) (w : World) (hs : s.size ≤ maxLen) (h0 : 0 < s.size) (hb : s[0].toNat ≠ 45) :
    Calls Try.prog 15 #[.string s] w fun e w' => e = .returned (.bool (wordOf s.data.toList)) ∧ w = w' := by
  unfold maxLen at hs
  have HW := Lib.hid (wordOf_pos h0 hb)
  have h0' : (0 : Int) < s.size := by omega
  have hsz : ((s.size : Int) == 0) = false := beq_eq_false_iff_ne.2 (by omega)
  have b45 : ((s[0].toNat : Int) == 45) = false := beq_eq_false_iff_ne.2 (by omega)
  clear hb
  by_cases hz : s[0].toNat = 48 ∧ (!(s.toList == [48])) = true
  · obtain ⟨hz, h48⟩ := hz
    have HV := Lib.hid (show wordOf s.data.toList = false by rw [HW.out, decide_eq_true hz, h48]; simp)
    have b48 : ((s[0].toNat : Int) == 48) = true := beq_iff_eq.2 (by omega)
    clear hz HW
    go_enter Try.func15, Try.ntmps15
    go_wp2
    go_ret
    exact ⟨ret_bool HV.out.symm, rfl⟩
  · have HV := Lib.hid (show wordOf s.data.toList = s.data.toList.all dig by
      rw [HW.out]
      by_cases e : s[0].toNat = 48
      · have : (!(s.toList == [48])) = false := by
          rw [Bool.eq_false_iff]; exact fun h => hz ⟨e, h⟩
        rw [this]; simp
      · rw [decide_eq_false e]; simp)
    have key : ((s[0].toNat : Int) == 48) = false ∨ (((s[0].toNat : Int) == 48) = true ∧ (!(s.toList == [48])) = false) := by
      by_cases e : s[0].toNat = 48
      · exact .inr ⟨beq_iff_eq.2 (by omega), by rw [Bool.eq_false_iff]; exact fun h => hz ⟨e, h⟩⟩
      · exact .inl (beq_eq_false_iff_ne.2 (by omega))
    clear hz HW
    rcases key with b48 | ⟨b48, h48⟩
    all_goals
      go_enter Try.func15, Try.ntmps15
      go_wp2
      go_loop [4] (fun i => ∃ k : Nat, k ≤ s.size ∧ i = .int .i64 k ∧ ∀ j (h : j < s.size), j < k → 48 ≤ s[j].toNat ∧ s[j].toNat ≤ 57) (fun i => s.size - (intOf i).toNat)
      case atStart => exact ⟨0, Nat.zero_le _, rfl, fun _ _ h => absurd h (by omega)⟩
      case round =>
        obtain ⟨k, hk, rfl, hd⟩ := hrel
        have HD := Lib.hid hd
        clear hd
        by_cases hlt : k < s.size
        · by_cases hdk : 48 ≤ s[k].toNat ∧ s[k].toNat ≤ 57
          · obtain ⟨hd1, hd2⟩ := hdk
            have HD2 := Lib.hid (show ∀ j (h : j < s.size), j < k + 1 → 48 ≤ s[j].toNat ∧ s[j].toNat ≤ 57 from fun j h hj => by
              by_cases e : j = k
              · subst e; exact ⟨hd1, hd2⟩
              · exact HD.out j h (by omega))
            go_wp2
            go_round
            case rel => exact ⟨k + 1, by omega, by go_num, HD2.out⟩
            case measure => simp [intOf]; omega
          · have HV2 := Lib.hid (HV.out.trans (not_all_dig s k hlt hdk))
            have hdk' : s[k].toNat < 48 ∨ 57 < s[k].toNat := by omega
            clear hdk
            rcases hdk' with hdk | hdk
            all_goals
              go_wp2
              go_ret
              exact ⟨ret_bool HV2.out.symm, rfl⟩
        · have HV2 := Lib.hid (HV.out.trans (all_dig s fun j h => HD.out j h (by omega)))
          go_wp2
          go_ret
          exact ⟨ret_bool HV2.out.symm, rfl⟩

set_option maxHeartbeats 800000 in
theorem word_neg (s : ByteArray) (w : World) (hs : s.size ≤ maxLen) (h0 : 0 < s.size) (hb : s[0].toNat = 45) :
    Calls Try.prog 15 #[.string s] w fun e w' => e = .returned (.bool (wordOf s.data.toList)) ∧ w = w' := by
  unfold maxLen at hs
  have hw := wordOf_neg h0 hb
  have h0' : (0 : Int) < s.size := by omega
  have h1' : (1 : Int) ≤ s.size := by omega
  have b45 : ((s[0].toNat : Int) == 45) = true := beq_iff_eq.2 (by omega)
  obtain ⟨t, ht⟩ : ∃ t, s.extract 1 s.size = t := ⟨_, rfl⟩
  have hts : t.size = s.size - 1 := by rw [← ht]; simp
  rw [ht] at hw
  have ts : t.size ≤ 9223372036854775807 := by omega
  clear hb
  by_cases hz : t.size = 0
  · have HV := Lib.hid (show wordOf s.data.toList = false by rw [hw, hz]; simp)
    have bz : ((t.size : Int) == 0) = true := beq_iff_eq.2 (by omega)
    clear hz hw hts
    go_enter Try.func15, Try.ntmps15
    go_wp2
    go_ret
    exact ⟨ret_bool HV.out.symm, rfl⟩
  · have bz : ((t.size : Int) == 0) = false := beq_eq_false_iff_ne.2 (by omega)
    have t0 : 0 < t.size := by omega
    have t0' : (0 : Int) < t.size := by omega
    have hh : t.data.toList.head? = some t[0] := by
      rw [List.head?_eq_getElem?, List.getElem?_eq_getElem (by simpa using t0), get_list t 0 t0]
    have e : (t[0] = 48) ↔ t[0].toNat = 48 := by rw [← UInt8.toNat_inj]; rfl
    have h48 : (!(s.toList == [48])) = true := by
      rw [Lib.toList_data]
      by_cases h : s.data.toList = [48]
      · have h1 := get_list s 0 h0
        simp only [h] at h1
        rw [← h1] at b45
        exact absurd (show (((48 : UInt8).toNat : Int) == 45) = true from b45) (by decide)
      · simp [h]
    simp only [hh, Option.some.injEq, e, decide_eq_true t0, Bool.true_and] at hw
    clear hz hts hh e
    by_cases h8 : t[0].toNat = 48
    · have HV := Lib.hid (show wordOf s.data.toList = false by rw [hw, decide_eq_true h8]; simp)
      have b48 : ((t[0].toNat : Int) == 48) = true := beq_iff_eq.2 (by omega)
      clear h8 hw
      go_enter Try.func15, Try.ntmps15
      go_wp2
      go_ret
      exact ⟨ret_bool HV.out.symm, rfl⟩
    · have HV := Lib.hid (show wordOf s.data.toList = t.data.toList.all dig by rw [hw, decide_eq_false h8]; simp)
      have b48 : ((t[0].toNat : Int) == 48) = false := beq_eq_false_iff_ne.2 (by omega)
      clear h8 hw
      go_enter Try.func15, Try.ntmps15
      go_wp2
      go_loop [4] (fun i => ∃ k : Nat, k ≤ t.size ∧ i = .int .i64 k ∧ ∀ j (h : j < t.size), j < k → 48 ≤ t[j].toNat ∧ t[j].toNat ≤ 57) (fun i => t.size - (intOf i).toNat)
      case atStart => exact ⟨0, Nat.zero_le _, rfl, fun _ _ h => absurd h (by omega)⟩
      case round =>
        obtain ⟨k, hk, rfl, hd⟩ := hrel
        have HD := Lib.hid hd
        clear hd
        by_cases hlt : k < t.size
        · by_cases hdk : 48 ≤ t[k].toNat ∧ t[k].toNat ≤ 57
          · obtain ⟨hd1, hd2⟩ := hdk
            have HD2 := Lib.hid (show ∀ j (h : j < t.size), j < k + 1 → 48 ≤ t[j].toNat ∧ t[j].toNat ≤ 57 from fun j h hj => by
              by_cases e : j = k
              · subst e; exact ⟨hd1, hd2⟩
              · exact HD.out j h (by omega))
            go_wp2
            go_round
            case rel => exact ⟨k + 1, by omega, by go_num, HD2.out⟩
            case measure => simp [intOf]; omega
          · have HV2 := Lib.hid (HV.out.trans (not_all_dig t k hlt hdk))
            have hdk' : t[k].toNat < 48 ∨ 57 < t[k].toNat := by omega
            clear hdk
            rcases hdk' with hdk | hdk
            all_goals
              go_wp2
              go_ret
              exact ⟨ret_bool HV2.out.symm, rfl⟩
        · have HV2 := Lib.hid (HV.out.trans (all_dig t fun j h => HD.out j h (by omega)))
          go_wp2
          go_ret
          exact ⟨ret_bool HV2.out.symm, rfl⟩

/-- The reference's Word. -/
theorem word_any (s : ByteArray) (w : World) (hs : s.size ≤ maxLen) :
    Calls Try.prog 15 #[.string s] w fun e w' => e = .returned (.bool (wordOf s.data.toList)) ∧ w = w' := by
  by_cases h0 : 0 < s.size
  · by_cases hb : s[0].toNat = 45
    · exact word_neg s w hs h0 hb
    · exact word_pos s w hs h0 hb
  · obtain ⟨⟨l⟩⟩ := s
    have : l = [] := by
      have : l.length = 0 := by simpa [ByteArray.size] using h0
      exact List.length_eq_zero_iff.1 this
    subst this
    exact word_empty w

/-- Digits held against others, as the reference's less does. -/
theorem less_any (a b : ByteArray) (w : World) (ha : a.size ≤ maxLen) (hb : b.size ≤ maxLen) :
    Calls Try.prog 16 #[.string a, .string b] w fun e w' => e = .returned (.bool (decide (a.size < b.size) || (decide (a.size = b.size) && (Op.bytesLess a.data.toList b.data.toList || a.data.toList == b.data.toList)))) ∧ w = w' := by
  unfold maxLen at ha hb
  rcases Nat.lt_trichotomy a.size b.size with h | h | h
  · have h' : (a.size : Int) < b.size := by omega
    have HV := Lib.hid (decide_eq_true h)
    go_enter Try.func16, Try.ntmps16
    go_wp2
    go_ret
    exact ⟨ret_bool (by simp [h]), rfl⟩
  · have h' : ¬ (a.size : Int) < b.size := by omega
    have h2 : ((a.size : Int) == b.size) = true := beq_iff_eq.2 (by omega)
    have HV := Lib.hid h
    clear h
    go_enter Try.func16, Try.ntmps16
    go_wp2
    go_ret
    exact ⟨ret_bool (by simp [HV.out, Lib.toList_data]), rfl⟩
  · have h' : ¬ (a.size : Int) < b.size := by omega
    have h2 : ((a.size : Int) == b.size) = false := beq_eq_false_iff_ne.2 (by omega)
    go_enter Try.func16, Try.ntmps16
    go_wp2
    go_ret
    exact ⟨ret_bool (by simp; omega), rfl⟩

end Go.Proofs.Ythnpfpgedlmpoaa
