/- The walk of num.value. -/
import Derived.Test.YthnpfpgedlmpoaaNumPiece
import Derived.Lib.IndexBytes
namespace Go.Proofs.Ythnpfpgedlmpoaa
open Go.RowKit Punnet.Num

theorem ret2_i64 {a b c d : Int} (h : (a, b) = (c, d)) : Ending.returned (.tuple #[.int .i64 a, .int .i64 b]) = .returned (.tuple #[.int .i64 c, .int .i64 d]) := by injection h with h1 h2; rw [h1, h2]

/-- Of a text of digits alone. -/
theorem valueOf_pos {s : ByteArray} (h0 : 0 < s.size) (hb : s[0].toNat ≠ 45) : valueOf s.data.toList = if s[0].toNat = 48 ∧ 1 < s.size then (0, 4) else if 9223372036854775807 < natOf s.data.toList then (0, 3) else ((natOf s.data.toList : Int), 0) := by
  have hl : 0 < s.data.toList.length := by simpa using h0
  have hn : neg s.data.toList = 0 := neg_of_dig hl (by rw [get_list s 0 h0]; exact hb)
  have hh : s.data.toList.head? = some s[0] := by
    rw [List.head?_eq_getElem?, List.getElem?_eq_getElem hl, get_list s 0 h0]
  have e : (s[0] = 48) ↔ s[0].toNat = 48 := by rw [← UInt8.toNat_inj]; rfl
  have hsz : s.data.toList.length = s.size := by simp
  simp only [valueOf, hn, List.drop_zero, hh, Option.some.injEq, e, hsz, Nat.zero_ne_one, false_or, if_false]

/-- Of a '-' and digits. -/
theorem valueOf_neg {s : ByteArray} (h0 : 1 < s.size) (hb : s[0].toNat = 45) : valueOf s.data.toList = if s[1].toNat = 48 then (0, 4) else if 9223372036854775808 < natOf (s.extract 1 s.size).data.toList then (0, 3) else (-(natOf (s.extract 1 s.size).data.toList : Int), 0) := by
  have hl : 1 < s.data.toList.length := by simpa using h0
  have hn : neg s.data.toList = 1 := neg_of_minus (by omega) (by rw [get_list s 0 (by omega)]; exact hb)
  have hd : (s.extract 1 s.size).data.toList = s.data.toList.drop 1 := Lib.extract_to_end s 1
  have hh : (s.data.toList.drop 1).head? = some s[1] := by
    rw [List.head?_eq_getElem?, List.getElem?_drop, List.getElem?_eq_getElem hl, get_list s 1 h0]
  have e : (s[1] = 48) ↔ s[1].toNat = 48 := by rw [← UInt8.toNat_inj]; rfl
  simp only [valueOf, hn, hd, hh, Option.some.injEq, e, true_or, and_true, if_true]

theorem neg_sum (S : Nat) (h : S ≤ 9223372036854775808) : wrap64 (wrap64 (-wrap64 (IntKind.u64.wrap ((S : Int) - 1))) - 1) = -(S : Int) := by
  simp only [wrap64, IntKind.wrap_u64]
  omega

set_option maxHeartbeats 1000000 in
theorem value_pos (s : ByteArray) (w : World) (hs : s.size ≤ maxLen) (h0 : 0 < s.size) (hd : ∀ k (h : k < s.size), 48 ≤ s[k].toNat ∧ s[k].toNat ≤ 57) :
    Calls Try.prog 14 #[.string s] w fun e w' => e = .returned (.tuple #[.int .i64 (valueOf s.data.toList).1, .int .i64 (valueOf s.data.toList).2]) ∧ Below w.heap.size w w' := by
  unfold maxLen at hs
  have H0 := hd 0 h0
  have HV := Lib.hid (valueOf_pos h0 (by omega))
  have b45 : ((s[0].toNat : Int) == 45) = false := by simp; omega
  have HD := Lib.hid hd
  clear hd
  have h0' : (0 : Int) < s.size := by omega
  by_cases hz : s[0].toNat = 48 ∧ 1 < s.size
  · have HV' := Lib.hid (HV.out.trans (if_pos hz))
    obtain ⟨hz, h1⟩ := hz
    have b48 : ((s[0].toNat : Int) == 48) = true := by simp; omega
    have h1' : (1 : Int) < s.size := by omega
    clear hz
    go_enter Try.func14, Try.ntmps14
    go_wp2
    go_ret2
    exact ⟨ret2_i64 (by rw [HV'.out]), Below.refl _ _⟩
  · have HV' := Lib.hid (HV.out.trans (if_neg hz))
    have key : ((s[0].toNat : Int) == 48) = false ∨ (((s[0].toNat : Int) == 48) = true ∧ (s.size : Int) ≤ 1) := by
      by_cases e : s[0].toNat = 48
      · exact .inr ⟨by simp; omega, by omega⟩
      · exact .inl (by simp; omega)
    clear hz HV
    have hiter : ∀ p, Below w.heap.size w (w.iter s p) := fun p => (Below.refl _ _).alloc (Nat.le_refl _) _
    rcases key with b48 | ⟨b48, h1⟩
    all_goals
      go_enter Try.func14, Try.ntmps14
      go_wp2
      go_loopw [7] (fun v wr => ∃ k S : Nat, wr = w.iter s k ∧ k ≤ s.size ∧ v = .int .u64 S ∧ S ≤ 9223372036854775807 ∧ S = natOf (s.data.toList.take k)) (fun _ wr => s.size - wr.iterPos w.heap.size)
      case atStart => exact ⟨0, 0, rfl, Nat.zero_le _, rfl, by omega, rfl⟩
      case round =>
        obtain ⟨k, S, rfl, hk, rfl, hS, hn⟩ := hrel
        by_cases hlt : k < s.size
        · have hg := get_list s k hlt
          have hll : k < s.data.toList.length := by simpa using hlt
          have HT := Lib.hid (natOf_take_succ hll)
          have hdk := HD.out k hlt
          have hnx := fun ty => run_next_ascii (P := Try.prog) w s k ty hlt (by omega)
          rw [hg, ← hn] at HT
          have HN := Lib.hid hn
          clear hg hn
          generalize s[k].toNat = b at *
          by_cases hov : 10 * S + (b - 48) ≤ 9223372036854775807
          · have hov' : (S : Int) ≤ (9223372036854775807 - ((b : Int) - 48)) / 10 := by omega
            go_wp2
            go_roundw
            case rel => exact ⟨k + 1, 10 * S + (b - 48), rfl, by omega, by go_num, by omega, HT.out.symm⟩
            case measure => simp; omega
          · have hov' : (9223372036854775807 - ((b : Int) - 48)) / 10 < (S : Int) := by omega
            have HV2 := Lib.hid (HV'.out.trans (if_pos (by have := natOf_take_le s.data.toList (k + 1); have := HT.out; omega)))
            go_wp2
            go_ret2
            exact ⟨ret2_i64 (by rw [HV2.out]), hiter _⟩
        · have HN := Lib.hid hn
          have HV2 := Lib.hid (HV'.out.trans (if_neg (by rw [hn] at hS; rw [List.take_of_length_le (by simp; omega)] at hS; omega)))
          clear hn
          have hnx := fun ty => run_next_end (P := Try.prog) w s k ty hlt
          go_wp2
          go_ret2
          exact ⟨ret2_i64 (by rw [HV2.out, HN.out, List.take_of_length_le (by simp; omega)]), hiter _⟩

set_option maxHeartbeats 1000000 in
theorem value_neg (s : ByteArray) (w : World) (hs : s.size ≤ maxLen) (h0 : 1 < s.size) (hb : s[0].toNat = 45) (hd : ∀ k (h : k < s.size), 0 < k → 48 ≤ s[k].toNat ∧ s[k].toNat ≤ 57) :
    Calls Try.prog 14 #[.string s] w fun e w' => e = .returned (.tuple #[.int .i64 (valueOf s.data.toList).1, .int .i64 (valueOf s.data.toList).2]) ∧ Below w.heap.size w w' := by
  unfold maxLen at hs
  have hv := valueOf_neg h0 hb
  have b45 : ((s[0].toNat : Int) == 45) = true := by simp; omega
  obtain ⟨t, ht⟩ : ∃ t, s.extract 1 s.size = t := ⟨_, rfl⟩
  have hts : t.size = s.size - 1 := by rw [← ht]; simp
  have htg : ∀ k (h : k < t.size), t[k] = s[1 + k] := by subst ht; intro k h; rw [ByteArray.getElem_extract]
  rw [ht] at hv
  have t0 : 0 < t.size := by omega
  rw [← htg 0 t0] at hv
  have HV := Lib.hid hv
  have hdt : ∀ k (h : k < t.size), 48 ≤ t[k].toNat ∧ t[k].toNat ≤ 57 := fun k h => by rw [htg k h]; exact hd _ _ (by omega)
  have HD := Lib.hid hdt
  have h0' : (0 : Int) < s.size := by omega
  have h1' : (1 : Int) ≤ s.size := by omega
  have t0' : (0 : Int) < t.size := by omega
  have tm : t.size ≤ 9223372036854775807 := by omega
  clear hd hb hv hts htg hdt
  by_cases hz : t[0].toNat = 48
  · have HV' := Lib.hid (HV.out.trans (if_pos hz))
    have b48 : ((t[0].toNat : Int) == 48) = true := by simp; omega
    clear hz
    go_enter Try.func14, Try.ntmps14
    go_wp2
    go_ret2
    exact ⟨ret2_i64 (by rw [HV'.out]), Below.refl _ _⟩
  · have HV' := Lib.hid (HV.out.trans (if_neg hz))
    have b48 : ((t[0].toNat : Int) == 48) = false := by simp; omega
    clear hz HV
    have hiter : ∀ p, Below w.heap.size w (w.iter t p) := fun p => (Below.refl _ _).alloc (Nat.le_refl _) _
    go_enter Try.func14, Try.ntmps14
    go_wp2
    go_loopw [7] (fun v wr => ∃ k S : Nat, wr = w.iter t k ∧ k ≤ t.size ∧ v = .int .u64 S ∧ S ≤ 9223372036854775808 ∧ S = natOf (t.data.toList.take k)) (fun _ wr => t.size - wr.iterPos w.heap.size)
    case atStart => exact ⟨0, 0, rfl, Nat.zero_le _, rfl, by omega, rfl⟩
    case round =>
      obtain ⟨k, S, rfl, hk, rfl, hS, hn⟩ := hrel
      by_cases hlt : k < t.size
      · have hg := get_list t k hlt
        have hll : k < t.data.toList.length := by simpa using hlt
        have HT := Lib.hid (natOf_take_succ hll)
        have hdk := HD.out k hlt
        have hnx := fun ty => run_next_ascii (P := Try.prog) w t k ty hlt (by omega)
        rw [hg, ← hn] at HT
        have HN := Lib.hid hn
        clear hg hn ht
        generalize t[k].toNat = b at *
        by_cases hov : 10 * S + (b - 48) ≤ 9223372036854775808
        · have hov' : (S : Int) ≤ (9223372036854775808 - ((b : Int) - 48)) / 10 := by omega
          go_wp2
          go_roundw
          case rel => exact ⟨k + 1, 10 * S + (b - 48), rfl, by omega, by go_num, by omega, HT.out.symm⟩
          case measure => simp; omega
        · have hov' : (9223372036854775808 - ((b : Int) - 48)) / 10 < (S : Int) := by omega
          have HV2 := Lib.hid (HV'.out.trans (if_pos (by have := natOf_take_le t.data.toList (k + 1); have := HT.out; omega)))
          go_wp2
          go_ret2
          exact ⟨ret2_i64 (by rw [HV2.out]), hiter _⟩
      · have HN := Lib.hid hn
        have HV2 := Lib.hid (HV'.out.trans (if_neg (by rw [hn] at hS; rw [List.take_of_length_le (by simp; omega)] at hS; omega)))
        clear hn ht
        have hnx := fun ty => run_next_end (P := Try.prog) w t k ty hlt
        go_wp2
        go_ret2
        refine ⟨ret2_i64 ?_, hiter _⟩
        rw [HV2.out, ← List.take_of_length_le (l := t.data.toList) (i := k) (by simp; omega), ← HN.out]
        rw [neg_sum S hS]

/-- What num.value is given: a text that is all of it a piece. -/
theorem piece_whole {s : ByteArray} (h0 : 0 < s.size) (hp : pieceLen s.data.toList = s.size) :
    (s[0].toNat ≠ 45 ∧ ∀ k (h : k < s.size), 48 ≤ s[k].toNat ∧ s[k].toNat ≤ 57) ∨ (s[0].toNat = 45 ∧ 1 < s.size ∧ ∀ k (h : k < s.size), 0 < k → 48 ≤ s[k].toNat ∧ s[k].toNat ≤ 57) := by
  have hl : 0 < s.data.toList.length := by simpa using h0
  have hall : ∀ k (h : k < s.size), neg s.data.toList ≤ k → 48 ≤ s[k].toNat ∧ s[k].toNat ≤ 57 := by
    intro k h hk
    have := piece_digs (l := s.data.toList) (by simpa using hp) hl k (by simpa using h) hk
    rw [get_list s k h] at this
    simpa [dig] using this
  by_cases hb : s[0].toNat = 45
  · have hn : neg s.data.toList = 1 := neg_of_minus hl (by rw [get_list s 0 h0]; exact hb)
    refine .inr ⟨hb, ?_, fun k h hk => hall k h (by omega)⟩
    have := piece_gt (l := s.data.toList) (by simpa using hp) hl
    rw [hn] at this
    simpa using this
  · have hn : neg s.data.toList = 0 := neg_of_dig hl (by rw [get_list s 0 h0]; exact hb)
    exact .inl ⟨hb, fun k h => hall k h (by omega)⟩

/-- num.value, of a text that is all of it a piece. -/
theorem value_any (s : ByteArray) (w : World) (hs : s.size ≤ maxLen) (h0 : 0 < s.size) (hp : pieceLen s.data.toList = s.size) :
    Calls Try.prog 14 #[.string s] w fun e w' => e = .returned (.tuple #[.int .i64 (valueOf s.data.toList).1, .int .i64 (valueOf s.data.toList).2]) ∧ Below w.heap.size w w' := by
  rcases piece_whole h0 hp with ⟨_, hd⟩ | ⟨hb, h1, hd⟩
  · exact value_pos s w hs h0 hd
  · exact value_neg s w hs h1 hb hd

end Go.Proofs.Ythnpfpgedlmpoaa
