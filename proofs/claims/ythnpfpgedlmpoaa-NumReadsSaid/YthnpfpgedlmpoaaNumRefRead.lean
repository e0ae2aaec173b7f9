/- The walks of the reference's Read and Scan. -/
import Derived.Test.YthnpfpgedlmpoaaNumRef
namespace Go.Proofs.Ythnpfpgedlmpoaa
open Go.RowKit Punnet.Num

theorem less_any' (a b : ByteArray) (w : World) (ha : a.size ≤ maxLen) (hb : b.size ≤ maxLen) :
    Calls Try.prog 16 #[.string a, .string b] w fun e w' => e = .returned (.bool (lessB a.data.toList b.data.toList)) ∧ w = w' := by
  have h := less_any a b w ha hb
  have h1 : a.size = a.data.toList.length := by simp
  have h2 : b.size = b.data.toList.length := by simp
  rw [h1, h2] at h
  exact h

/-- 2^63, as the reference types it. -/
def mostB : ByteArray := ⟨#[57, 50, 50, 51, 51, 55, 50, 48, 51, 54, 56, 53, 52, 55, 55, 53, 56, 48, 56]⟩
def maxB : ByteArray := ⟨#[57, 50, 50, 51, 51, 55, 50, 48, 51, 54, 56, 53, 52, 55, 55, 53, 56, 48, 55]⟩

set_option maxHeartbeats 1000000 in
theorem refRead_neg (s : ByteArray) (w : World) (hs : s.size ≤ maxLen) (h0 : 0 < s.size) (hb : s[0].toNat = 45) (hw : wordOf s.data.toList = true) :
    Calls Try.prog 11 #[.string s] w fun e w' => e = .returned (.tuple #[.int .i64 (readOf s.data.toList).1, .int .i64 (readOf s.data.toList).2]) ∧ w = w' := by
  have HW := Lib.hid (word_any s w hs)
  rw [hw] at HW
  have hl : 0 < s.data.toList.length := by simpa using h0
  have hlen : s.data.toList.length = s.size := by simp
  have hn : neg s.data.toList = 1 := neg_of_minus hl (by rw [get_list s 0 h0]; exact hb)
  have iw := isWord hw
  have HR := Lib.hid iw.read
  have hless := iw.less_most
  have hd : (s.extract 1 s.size).data.toList = s.data.toList.drop (neg s.data.toList) := by rw [hn]; exact Lib.extract_to_end s 1
  have HL := Lib.hid (less_any' (s.extract 1 s.size) mostB w (by simp; unfold maxLen at *; omega) (by decide))
  rw [hd] at HL
  rw [show mostB.data.toList = [57, 50, 50, 51, 51, 55, 50, 48, 51, 54, 56, 53, 52, 55, 55, 53, 56, 48, 56] from rfl, hless] at HL
  rw [mostB] at HL
  unfold maxLen at hs
  have h0' : (0 : Int) < s.size := by omega
  have h1' : (1 : Int) ≤ s.size := by omega
  have b45 : ((s[0].toNat : Int) == 45) = true := beq_iff_eq.2 (by omega)
  have b45' : ((s[0].toNat : Int) != 45) = false := by rw [bne, b45]; rfl
  have hdig : ∀ k (h : k < s.size), 0 < k → 48 ≤ s[k].toNat ∧ s[k].toNat ≤ 57 := by
    intro k h hk
    rw [← get_list s k h]
    have := iw.digits (s.data.toList[k]'(by omega)) (by
      rw [hn]
      have e : s.data.toList[k]'(by omega) = (s.data.toList.drop 1)[k - 1]'(by rw [List.length_drop]; omega) := by
        rw [List.getElem_drop]; congr 1; omega
      rw [e]; exact List.getElem_mem _)
    exact this
  have HD := Lib.hid hdig
  by_cases hov : 9223372036854775808 < natOf (s.data.toList.drop (neg s.data.toList))
  · have HV := Lib.hid (show readOf s.data.toList = (0, 3) by rw [HR.out, if_pos hn, if_pos hov])
    rw [decide_eq_false (by omega)] at HL
    clear hb hw hlen hn iw HR hless hd hdig hov HD
    go_enter Try.func11, Try.ntmps11
    go_wp2_with (first | (go_at_call 15; refine HW.out.mono ?_; rintro e w1 ⟨rfl, rfl⟩) | (go_at_call 16; refine HL.out.mono ?_; rintro e w1 ⟨rfl, rfl⟩))
    go_ret2
    exact ⟨ret2_i64 (by rw [HV.out]), rfl⟩
  · have HV := Lib.hid (show readOf s.data.toList = (-(natOf (s.data.toList.drop (neg s.data.toList)) : Int), 0) by rw [HR.out, if_pos hn, if_neg hov])
    rw [decide_eq_true (by omega)] at HL
    have HO := Lib.hid hov
    have HN := Lib.hid hn
    have hl1 : s.data.toList.length ≤ s.size := by omega
    have hl2 : s.size ≤ s.data.toList.length := by omega
    clear hb hw hlen hn iw HR hless hd hdig hov
    go_enter Try.func11, Try.ntmps11
    go_wp2_with (first | (go_at_call 15; refine HW.out.mono ?_; rintro e w1 ⟨rfl, rfl⟩) | (go_at_call 16; refine HL.out.mono ?_; rintro e w1 ⟨rfl, rfl⟩))
    go_loop [4, 5] (fun n i => ∃ k S : Nat, k ≤ s.size ∧ i = .int .i64 k ∧ n = .int .i64 (-(S : Int)) ∧ S = pref s.data.toList k) (fun _ i => s.size - (intOf i).toNat)
    case atStart => exact ⟨0, 0, Nat.zero_le _, rfl, rfl, (pref_zero _).symm⟩
    case round =>
      obtain ⟨k, S, hk, rfl, rfl, hS⟩ := hrel
      by_cases hlt : k < s.size
      · have hle := pref_le s.data.toList (k + 1)
        have HO' := HO.out
        by_cases hk0 : k = 0
        · subst hk0
          have HS := Lib.hid hS
          have HP := pref_zero s.data.toList
          clear hS
          have HP1 := Lib.hid (pref_one HN.out)
          rw [HP] at HS
          have HS0 := HS.out
          subst HS0
          clear hle HP HO'
          go_wp2
          go_round
          case rel => exact ⟨1, 0, by omega, rfl, rfl, HP1.out.symm⟩
          case measure => simp [intOf]; omega
        · obtain ⟨d1, d2⟩ := HD.out k hlt (by omega)
          have hst := pref_step (l := s.data.toList) (k := k) (by omega) (by have := HN.out; omega)
          rw [get_list s k hlt, ← hS] at hst
          have HST := Lib.hid hst
          have hbd : 10 * S + (s[k].toNat - 48) ≤ 9223372036854775808 := by omega
          clear hS hst hle HO'
          have hne : ((s[k].toNat : Int) != 45) = true := by rw [bne_iff_ne]; omega
          go_wp2
          go_round
          case rel => exact ⟨k + 1, 10 * S + (s[k].toNat - 48), by omega, by go_num, by go_num, HST.out.symm⟩
          case measure => simp [intOf]; omega
      · have HE := Lib.hid (hS.trans (pref_end (by omega)))
        clear hS
        go_wp2
        go_ret2
        exact ⟨ret2_i64 (by rw [HV.out, HE.out]), rfl⟩

set_option maxHeartbeats 1000000 in
theorem refRead_pos (s : ByteArray) (w : World) (hs : s.size ≤ maxLen) (h0 : 0 < s.size) (hb : s[0].toNat ≠ 45) (hw : wordOf s.data.toList = true) :
    Calls Try.prog 11 #[.string s] w fun e w' => e = .returned (.tuple #[.int .i64 (readOf s.data.toList).1, .int .i64 (readOf s.data.toList).2]) ∧ w = w' := by
  have HW := Lib.hid (word_any s w hs)
  rw [hw] at HW
  have hl : 0 < s.data.toList.length := by simpa using h0
  have hlen : s.data.toList.length = s.size := by simp
  have hn : neg s.data.toList = 0 := neg_of_dig hl (by rw [get_list s 0 h0]; exact hb)
  have iw := isWord hw
  have HR := Lib.hid iw.read
  have hless : lessB s.data.toList [57, 50, 50, 51, 51, 55, 50, 48, 51, 54, 56, 53, 52, 55, 55, 53, 56, 48, 55] = decide (natOf (s.data.toList.drop (neg s.data.toList)) ≤ 9223372036854775807) := by
    rw [← iw.less_max]
    rw [hn]; rfl
  have hd : s.data.toList = s.data.toList.drop (neg s.data.toList) := by rw [hn]; rfl
  have HL := Lib.hid (less_any' s maxB w hs (by decide))
  rw [show maxB.data.toList = [57, 50, 50, 51, 51, 55, 50, 48, 51, 54, 56, 53, 52, 55, 55, 53, 56, 48, 55] from rfl, hless] at HL
  rw [maxB] at HL
  unfold maxLen at hs
  have h0' : (0 : Int) < s.size := by omega
  have h1' : (1 : Int) ≤ s.size := by omega
  have b45 : ((s[0].toNat : Int) == 45) = false := beq_eq_false_iff_ne.2 (by omega)
  have b45' : ((s[0].toNat : Int) != 45) = true := by rw [bne, b45]; rfl
  have hdig : ∀ k (h : k < s.size), 48 ≤ s[k].toNat ∧ s[k].toNat ≤ 57 := by
    intro k h
    rw [← get_list s k h]
    have := iw.digits (s.data.toList[k]'(by omega)) (by
      rw [← hd]; exact List.getElem_mem _)
    exact this
  have HD := Lib.hid hdig
  by_cases hov : 9223372036854775807 < natOf (s.data.toList.drop (neg s.data.toList))
  · have HV := Lib.hid (show readOf s.data.toList = (0, 3) by rw [HR.out, if_neg (by omega), if_pos hov])
    rw [decide_eq_false (by omega)] at HL
    clear hb hw hlen hn iw HR hless hd hdig hov HD
    go_enter Try.func11, Try.ntmps11
    go_wp2_with (first | (go_at_call 15; refine HW.out.mono ?_; rintro e w1 ⟨rfl, rfl⟩) | (go_at_call 16; refine HL.out.mono ?_; rintro e w1 ⟨rfl, rfl⟩))
    go_ret2
    exact ⟨ret2_i64 (by rw [HV.out]), rfl⟩
  · have HV := Lib.hid (show readOf s.data.toList = ((natOf (s.data.toList.drop (neg s.data.toList)) : Int), 0) by rw [HR.out, if_neg (by omega), if_neg hov])
    rw [decide_eq_true (by omega)] at HL
    have HO := Lib.hid hov
    have HN := Lib.hid hn
    have hl1 : s.data.toList.length ≤ s.size := by omega
    have hl2 : s.size ≤ s.data.toList.length := by omega
    clear hb hw hlen hn iw HR hless hd hdig hov
    go_enter Try.func11, Try.ntmps11
    go_wp2_with (first | (go_at_call 15; refine HW.out.mono ?_; rintro e w1 ⟨rfl, rfl⟩) | (go_at_call 16; refine HL.out.mono ?_; rintro e w1 ⟨rfl, rfl⟩))
    go_loop [4, 5] (fun n i => ∃ k S : Nat, k ≤ s.size ∧ i = .int .i64 k ∧ n = .int .i64 (-(S : Int)) ∧ S = pref s.data.toList k) (fun _ i => s.size - (intOf i).toNat)
    case atStart => exact ⟨0, 0, Nat.zero_le _, rfl, rfl, (pref_zero _).symm⟩
    case round =>
      obtain ⟨k, S, hk, rfl, rfl, hS⟩ := hrel
      by_cases hlt : k < s.size
      · have hle := pref_le s.data.toList (k + 1)
        have HO' := HO.out
        obtain ⟨d1, d2⟩ := HD.out k hlt
        have hst := pref_step (l := s.data.toList) (k := k) (by omega) (by have := HN.out; omega)
        rw [get_list s k hlt, ← hS] at hst
        have HST := Lib.hid hst
        have hbd : 10 * S + (s[k].toNat - 48) ≤ 9223372036854775807 := by omega
        clear hS hst hle HO'
        have hne : ((s[k].toNat : Int) != 45) = true := by rw [bne_iff_ne]; omega
        go_wp2
        go_round
        case rel => exact ⟨k + 1, 10 * S + (s[k].toNat - 48), by omega, by go_num, by go_num, HST.out.symm⟩
        case measure => simp [intOf]; omega
      · have HE := Lib.hid (hS.trans (pref_end (by omega)))
        have hSb : S ≤ 9223372036854775807 := by have h1 := HE.out; have h2 := HO.out; omega
        clear hS
        go_wp2
        go_ret2
        exact ⟨ret2_i64 (by rw [HV.out, HE.out]), rfl⟩

set_option maxHeartbeats 400000 in
theorem refRead_no (s : ByteArray) (w : World) (hs : s.size ≤ maxLen) (hw : wordOf s.data.toList = false) :
    Calls Try.prog 11 #[.string s] w fun e w' => e = .returned (.tuple #[.int .i64 0, .int .i64 4]) ∧ w = w' := by
  have HW := Lib.hid (word_any s w hs)
  rw [hw] at HW
  clear hw
  go_enter Try.func11, Try.ntmps11
  go_wp2_with (go_at_call 15; refine HW.out.mono ?_; rintro e w1 ⟨rfl, rfl⟩)
  go_ret2
  exact ⟨rfl, rfl⟩

/-- The reference's Read tells what num.Read tells. -/
theorem refRead_any (s : ByteArray) (w : World) (hs : s.size ≤ maxLen) :
    Calls Try.prog 11 #[.string s] w fun e w' => e = .returned (.tuple #[.int .i64 (readOf s.data.toList).1, .int .i64 (readOf s.data.toList).2]) ∧ w = w' := by
  cases hw : wordOf s.data.toList with
  | false => rw [read_no_word hw]; exact refRead_no s w hs hw
  | true =>
    have h0 : 0 < s.size := by
      have := (isWord hw).some_
      have h2 : s.data.toList.length = s.size := by simp
      omega
    by_cases hb : s[0].toNat = 45
    · exact refRead_neg s w hs h0 hb hw
    · exact refRead_pos s w hs h0 hb hw

/-- How far the reference's Scan goes. -/
theorem refEnd (l : List UInt8) : l.take (neg l + ((l.drop (neg l)).takeWhile dig).length) = l.take (pieceLen l) ∨ pieceLen l = 0 ∧ readOf (l.take (neg l + ((l.drop (neg l)).takeWhile dig).length)) = (0, 4) := by
  by_cases h : ((l.drop (neg l)).takeWhile dig).length = 0
  · right
    refine ⟨by rw [pieceLen, if_pos h], ?_⟩
    rw [h, Nat.add_zero, readOf, if_pos]
    left
    have hn : neg (l.take (neg l)) ≤ 1 := neg_le_one _
    rw [pieceLen, if_pos]
    rcases Nat.eq_zero_or_pos (neg l) with e | e
    · rw [e]; simp
    · have e1 : neg l = 1 := by have := neg_le_one l; omega
      have e2 : neg (l.take (neg l)) = 1 := by rw [neg_take e, e1]
      rw [e2, e1]
      have : (l.take 1).drop 1 = [] := List.drop_eq_nil_iff.2 (by simp; omega)
      rw [this]; rfl
  · left
    rw [pieceLen, if_neg h]

/-- What the reference's Scan tells, by its own end. -/
theorem scanOf_end (l : List UInt8) (a : Nat) (ha : a ≤ l.length) (n : Nat) (hn : n = neg (l.drop a) + (((l.drop a).drop (neg (l.drop a))).takeWhile dig).length) :
    scanOf l a = if (readOf ((l.drop a).take n)).2 ≠ 0 then (0, 0, (readOf ((l.drop a).take n)).2) else ((readOf ((l.drop a).take n)).1, (a : Int) + n, 0) := by
  rw [scanOf, if_neg (by omega), Int.toNat_natCast]
  generalize l.drop a = r at *
  rcases refEnd r with h | ⟨h1, h2⟩
  · subst hn
    by_cases h0 : pieceLen r = 0
    · have hz : (((r.drop (neg r))).takeWhile dig).length = 0 := by
        rw [pieceLen] at h0
        split at h0 <;> omega
      have h4 : readOf (r.take (neg r + ((r.drop (neg r)).takeWhile dig).length)) = (0, 4) := by
        rcases refEnd r with h' | h'
        · rw [h', h0]; rfl
        · exact h'.2
      rw [if_pos h0, h4]; rfl
    · have hp : pieceLen r = neg r + ((r.drop (neg r)).takeWhile dig).length := by
        rw [pieceLen] at h0 ⊢
        split
        · rename_i h'; rw [if_pos h'] at h0; exact absurd rfl h0
        · rfl
      rw [if_neg h0, ← hp]
      have hr : readOf (r.take (pieceLen r)) = valueOf (r.take (pieceLen r)) := by
        rw [readOf, pieceLen_take, if_neg]
        have := pieceLen_le r
        rw [List.length_take]
        omega
      rw [hr]
  · subst hn
    rw [if_pos h1, h2]; rfl

theorem end_len (s : ByteArray) (a e k : Nat) (ha : a ≤ s.size) (he : e = a + neg (s.data.toList.drop a)) (hk : k ≤ s.size) (hek : e ≤ k) (hd : ∀ j (h : j < s.size), e ≤ j → j < k → 48 ≤ s[j].toNat ∧ s[j].toNat ≤ 57)
    (hs : ∀ h : k < s.size, ¬ (48 ≤ s[k].toNat ∧ s[k].toNat ≤ 57)) : k - a = neg (s.data.toList.drop a) + (((s.data.toList.drop a).drop (neg (s.data.toList.drop a))).takeWhile dig).length := by
  have hlen : s.data.toList.length = s.size := by simp
  have h : (((s.data.toList.drop a).drop (neg (s.data.toList.drop a))).takeWhile dig).length = k - e := by
    rw [List.drop_drop, ← he]
    refine takeWhile_len (by rw [List.length_drop]; omega) (fun j h hj => ?_) (fun h => ?_)
    · rw [List.length_drop] at h
      rw [List.getElem_drop, get_list s (e + j) (by omega), dig, decide_eq_true_iff]
      exact hd _ _ (by omega) (by omega)
    · rw [List.length_drop] at h
      have hk' : k < s.size := by omega
      have := hs hk'
      rw [List.getElem_drop, dig, decide_eq_false_iff_not]
      have e1 : s.data.toList[e + (k - e)]'(by omega) = s[k] := by
        rw [← get_list s k hk']; congr 1; omega
      rw [e1]; exact this
  rw [h]; omega

set_option maxHeartbeats 400000 in
theorem refScan_out (s : ByteArray) (a : Int) (w : World) (h : a < 0 ∨ (s.size : Int) < a) :
    Calls Try.prog 12 #[.string s, .int .i64 a] w fun e w' => e = .returned (.tuple #[.int .i64 0, .int .i64 0, .int .i64 2]) ∧ w = w' := by
  rcases h with h | h
  · go_enter Try.func12, Try.ntmps12
    go_wp2
    go_ret3
    exact ⟨rfl, rfl⟩
  · have h' : ¬ a < 0 := by omega
    go_enter Try.func12, Try.ntmps12
    go_wp2
    go_ret3
    exact ⟨rfl, rfl⟩

set_option maxHeartbeats 1000000 in
theorem refScan_at (s : ByteArray) (a : Nat) (w : World) (hs : s.size ≤ maxLen) (h : a ≤ s.size) :
    Calls Try.prog 12 #[.string s, .int .i64 a] w fun e w' => e = .returned (.tuple #[.int .i64 (scanOf s.data.toList a).1, .int .i64 (scanOf s.data.toList a).2.1, .int .i64 (scanOf s.data.toList a).2.2]) ∧ w = w' := by
  have hm : s.size ≤ 9223372036854775807 := by unfold maxLen at hs; omega
  have hlen : s.data.toList.length = s.size := by simp
  have ha : ¬ (a : Int) < 0 := by omega
  have ha' : (a : Int) ≤ s.size := by omega
  have HS := Lib.hid (fun k (hk : k ≤ s.size) (hak : a ≤ k) (hn : k - a = neg (s.data.toList.drop a) + (((s.data.toList.drop a).drop (neg (s.data.toList.drop a))).takeWhile dig).length) =>
    show scanOf s.data.toList a = if (readOf (s.extract a k).data.toList).2 ≠ 0 then (0, 0, (readOf (s.extract a k).data.toList).2) else ((readOf (s.extract a k).data.toList).1, (k : Int), 0) by
      rw [scanOf_end s.data.toList a (by omega) (k - a) hn, Lib.extract_data, show ((a : Int) + ((k - a : Nat) : Int)) = k by omega])
  have HR := Lib.hid (fun k (hk : k ≤ s.size) => refRead_any (s.extract a k) w (by simp; unfold maxLen at *; omega))
  have key : (∃ h : a < s.size, s[a].toNat = 45 ∧ neg (s.data.toList.drop a) = 1) ∨ ((∀ h : a < s.size, ((s[a].toNat : Int) == 45) = false) ∧ neg (s.data.toList.drop a) = 0) := by
    by_cases hlt : a < s.size
    · have h0 : 0 < (s.data.toList.drop a).length := by rw [List.length_drop]; omega
      have e : (s.data.toList.drop a)[0] = s[a] := by rw [List.getElem_drop, ← get_list s a hlt]; rfl
      by_cases hb : s[a].toNat = 45
      · exact .inl ⟨hlt, hb, neg_of_minus h0 (by rw [e]; exact hb)⟩
      · exact .inr ⟨fun _ => beq_eq_false_iff_ne.2 (by omega), neg_of_dig h0 (by rw [e]; exact hb)⟩
    · refine .inr ⟨fun h => absurd h hlt, ?_⟩
      rw [List.drop_eq_nil_of_le (by omega)]; rfl
  clear hs hlen
  rcases key with ⟨hlt, hb, hn⟩ | ⟨hb, hn⟩
  · have HE := Lib.hid (fun k => end_len s a (a + 1) k h (by omega))
    have hlt' : (a : Int) < s.size := by omega
    have b45 : ((s[a].toNat : Int) == 45) = true := beq_iff_eq.2 (by omega)
    clear hb hn
    go_enter Try.func12, Try.ntmps12
    go_wp2
    go_loop [7] (fun i => ∃ k : Nat, a + 1 ≤ k ∧ k ≤ s.size ∧ i = .int .i64 k ∧ ∀ j (h : j < s.size), a + 1 ≤ j → j < k → 48 ≤ s[j].toNat ∧ s[j].toNat ≤ 57) (fun i => s.size - (intOf i).toNat)
    case atStart => exact ⟨a + 1, Nat.le_refl _, hlt, by go_num, fun _ _ h1 h2 => absurd h1 (by omega)⟩
    case round =>
      obtain ⟨k, hk1, hk2, rfl, hd⟩ := hrel
      have HD := Lib.hid hd
      clear hd
      by_cases hlt2 : k < s.size
      · by_cases hdk : 48 ≤ s[k].toNat ∧ s[k].toNat ≤ 57
        · obtain ⟨hd1, hd2⟩ := hdk
          have HD2 := Lib.hid (show ∀ j (h : j < s.size), a + 1 ≤ j → j < k + 1 → 48 ≤ s[j].toNat ∧ s[j].toNat ≤ 57 from fun j h hj1 hj => by
            by_cases e : j = k
            · subst e; exact ⟨hd1, hd2⟩
            · exact HD.out j h hj1 (by omega))
          go_wp2
          go_round
          case rel => exact ⟨k + 1, by omega, by omega, by go_num, HD2.out⟩
          case measure => simp [intOf]; omega
        · have hdk' : s[k].toNat < 48 ∨ 57 < s[k].toNat := by omega
          have hn := HE.out k hk2 hk1 HD.out (fun _ => hdk)
          have hsc := HS.out k hk2 (by omega) hn
          have HRk := Lib.hid (HR.out k hk2)
          generalize readOf (s.extract a k).data.toList = v at hsc HRk
          obtain ⟨v1, v2⟩ := v
          have hka : (a : Int) ≤ k := by omega
          have hks : (k : Int) ≤ s.size := by omega
          by_cases h2 : v2 = 0
          · have HV := Lib.hid (hsc.trans (if_neg (by simp [h2])))
            subst h2
            clear hsc hn
            rcases hdk' with hdk1 | hdk1
            all_goals
              go_wp2_with (go_at_call 11; refine HRk.out.mono ?_; rintro e w1 ⟨rfl, rfl⟩)
              go_ret3
              exact ⟨ret3_i64 (by rw [HV.out]), rfl⟩
          · have HV := Lib.hid (hsc.trans (if_pos h2))
            have b2 : (v2 != 0) = true := by simp [h2]
            clear hsc hn h2
            rcases hdk' with hdk1 | hdk1
            all_goals
              go_wp2_with (go_at_call 11; refine HRk.out.mono ?_; rintro e w1 ⟨rfl, rfl⟩)
              go_ret3
              exact ⟨ret3_i64 (by rw [HV.out]), rfl⟩
      · have hn := HE.out k hk2 hk1 HD.out (fun h => absurd h hlt2)
        have hsc := HS.out k hk2 (by omega) hn
        have HRk := Lib.hid (HR.out k hk2)
        generalize readOf (s.extract a k).data.toList = v at hsc HRk
        obtain ⟨v1, v2⟩ := v
        have hka : (a : Int) ≤ k := by omega
        have hks : (k : Int) ≤ s.size := by omega
        by_cases h2 : v2 = 0
        · have HV := Lib.hid (hsc.trans (if_neg (by simp [h2])))
          subst h2
          clear hsc hn
          all_goals
            go_wp2_with (go_at_call 11; refine HRk.out.mono ?_; rintro e w1 ⟨rfl, rfl⟩)
            go_ret3
            exact ⟨ret3_i64 (by rw [HV.out]), rfl⟩
        · have HV := Lib.hid (hsc.trans (if_pos h2))
          have b2 : (v2 != 0) = true := by simp [h2]
          clear hsc hn h2
          all_goals
            go_wp2_with (go_at_call 11; refine HRk.out.mono ?_; rintro e w1 ⟨rfl, rfl⟩)
            go_ret3
            exact ⟨ret3_i64 (by rw [HV.out]), rfl⟩
  · have HE := Lib.hid (fun k => end_len s a a k h (by omega))
    have key2 : (a < s.size) ∨ (s.size ≤ a) := by omega
    clear hn
    rcases key2 with hlt | hge
    · have b45 := hb hlt
      clear hb
      have hlt' : (a : Int) < s.size := by omega
      go_enter Try.func12, Try.ntmps12
      go_wp2
      go_loop [7] (fun i => ∃ k : Nat, a ≤ k ∧ k ≤ s.size ∧ i = .int .i64 k ∧ ∀ j (h : j < s.size), a ≤ j → j < k → 48 ≤ s[j].toNat ∧ s[j].toNat ≤ 57) (fun i => s.size - (intOf i).toNat)
      case atStart => exact ⟨a, Nat.le_refl _, h, rfl, fun _ _ h1 h2 => absurd h1 (by omega)⟩
      case round =>
        obtain ⟨k, hk1, hk2, rfl, hd⟩ := hrel
        have HD := Lib.hid hd
        clear hd
        by_cases hlt2 : k < s.size
        · by_cases hdk : 48 ≤ s[k].toNat ∧ s[k].toNat ≤ 57
          · obtain ⟨hd1, hd2⟩ := hdk
            have HD2 := Lib.hid (show ∀ j (h : j < s.size), a ≤ j → j < k + 1 → 48 ≤ s[j].toNat ∧ s[j].toNat ≤ 57 from fun j h hj1 hj => by
              by_cases e : j = k
              · subst e; exact ⟨hd1, hd2⟩
              · exact HD.out j h hj1 (by omega))
            go_wp2
            go_round
            case rel => exact ⟨k + 1, by omega, by omega, by go_num, HD2.out⟩
            case measure => simp [intOf]; omega
          · have hdk' : s[k].toNat < 48 ∨ 57 < s[k].toNat := by omega
            have hn := HE.out k hk2 hk1 HD.out (fun _ => hdk)
            have hsc := HS.out k hk2 (by omega) hn
            have HRk := Lib.hid (HR.out k hk2)
            generalize readOf (s.extract a k).data.toList = v at hsc HRk
            obtain ⟨v1, v2⟩ := v
            have hka : (a : Int) ≤ k := by omega
            have hks : (k : Int) ≤ s.size := by omega
            by_cases h2 : v2 = 0
            · have HV := Lib.hid (hsc.trans (if_neg (by simp [h2])))
              subst h2
              clear hsc hn
              rcases hdk' with hdk1 | hdk1
              all_goals
                go_wp2_with (go_at_call 11; refine HRk.out.mono ?_; rintro e w1 ⟨rfl, rfl⟩)
                go_ret3
                exact ⟨ret3_i64 (by rw [HV.out]), rfl⟩
            · have HV := Lib.hid (hsc.trans (if_pos h2))
              have b2 : (v2 != 0) = true := by simp [h2]
              clear hsc hn h2
              rcases hdk' with hdk1 | hdk1
              all_goals
                go_wp2_with (go_at_call 11; refine HRk.out.mono ?_; rintro e w1 ⟨rfl, rfl⟩)
                go_ret3
                exact ⟨ret3_i64 (by rw [HV.out]), rfl⟩
        · have hn := HE.out k hk2 hk1 HD.out (fun h => absurd h hlt2)
          have hsc := HS.out k hk2 (by omega) hn
          have HRk := Lib.hid (HR.out k hk2)
          generalize readOf (s.extract a k).data.toList = v at hsc HRk
          obtain ⟨v1, v2⟩ := v
          have hka : (a : Int) ≤ k := by omega
          have hks : (k : Int) ≤ s.size := by omega
          by_cases h2 : v2 = 0
          · have HV := Lib.hid (hsc.trans (if_neg (by simp [h2])))
            subst h2
            clear hsc hn
            all_goals
              go_wp2_with (go_at_call 11; refine HRk.out.mono ?_; rintro e w1 ⟨rfl, rfl⟩)
              go_ret3
              exact ⟨ret3_i64 (by rw [HV.out]), rfl⟩
          · have HV := Lib.hid (hsc.trans (if_pos h2))
            have b2 : (v2 != 0) = true := by simp [h2]
            clear hsc hn h2
            all_goals
              go_wp2_with (go_at_call 11; refine HRk.out.mono ?_; rintro e w1 ⟨rfl, rfl⟩)
              go_ret3
              exact ⟨ret3_i64 (by rw [HV.out]), rfl⟩
    · have hge' : ¬ (a : Int) < s.size := by omega
      clear hb
      go_enter Try.func12, Try.ntmps12
      go_wp2
      go_loop [7] (fun i => ∃ k : Nat, a ≤ k ∧ k ≤ s.size ∧ i = .int .i64 k ∧ ∀ j (h : j < s.size), a ≤ j → j < k → 48 ≤ s[j].toNat ∧ s[j].toNat ≤ 57) (fun i => s.size - (intOf i).toNat)
      case atStart => exact ⟨a, Nat.le_refl _, h, rfl, fun _ _ h1 h2 => absurd h1 (by omega)⟩
      case round =>
        obtain ⟨k, hk1, hk2, rfl, hd⟩ := hrel
        have HD := Lib.hid hd
        clear hd
        have hlt2 : ¬ k < s.size := by omega
        have hn := HE.out k hk2 hk1 HD.out (fun h => absurd h hlt2)
        have hsc := HS.out k hk2 (by omega) hn
        have HRk := Lib.hid (HR.out k hk2)
        generalize readOf (s.extract a k).data.toList = v at hsc HRk
        obtain ⟨v1, v2⟩ := v
        have hka : (a : Int) ≤ k := by omega
        have hks : (k : Int) ≤ s.size := by omega
        by_cases h2 : v2 = 0
        · have HV := Lib.hid (hsc.trans (if_neg (by simp [h2])))
          subst h2
          clear hsc hn
          all_goals
            go_wp2_with (go_at_call 11; refine HRk.out.mono ?_; rintro e w1 ⟨rfl, rfl⟩)
            go_ret3
            exact ⟨ret3_i64 (by rw [HV.out]), rfl⟩
        · have HV := Lib.hid (hsc.trans (if_pos h2))
          have b2 : (v2 != 0) = true := by simp [h2]
          clear hsc hn h2
          all_goals
            go_wp2_with (go_at_call 11; refine HRk.out.mono ?_; rintro e w1 ⟨rfl, rfl⟩)
            go_ret3
            exact ⟨ret3_i64 (by rw [HV.out]), rfl⟩

/-- The reference's Scan tells what num.Scan tells. -/
theorem refScan_any (s : ByteArray) (a : Int) (w : World) (hs : s.size ≤ maxLen) :
    Calls Try.prog 12 #[.string s, .int .i64 a] w fun e w' => e = .returned (.tuple #[.int .i64 (scanOf s.data.toList a).1, .int .i64 (scanOf s.data.toList a).2.1, .int .i64 (scanOf s.data.toList a).2.2]) ∧ w = w' := by
  by_cases h : a < 0 ∨ (s.size : Int) < a
  · have : scanOf s.data.toList a = (0, 0, 2) := by rw [scanOf]; exact if_pos (by simpa using h)
    rw [this]
    exact refScan_out s a w h
  · obtain ⟨n, rfl⟩ : ∃ n : Nat, a = n := ⟨a.toNat, by omega⟩
    exact refScan_at s n w hs (by omega)

end Go.Proofs.Ythnpfpgedlmpoaa
