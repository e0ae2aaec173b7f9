/- The walk of the reference's Begins. -/
import Derived.Test.YtnbcalldkjbjjaaNameRef
import Derived.Lib.IndexBytes
namespace Go.Proofs.Ytnbcalldkjbjjaa
open Go.RowKit Punnet.Name
set_option linter.unusedVariables false

theorem byteN_any (n : Nat) (h : n < 256) (w : World) : Calls Try.prog 21 #[.int .u8 (n : Int)] w fun e w' => e = .returned (.string (byteB (UInt8.ofNat n))) ∧ Below w.heap.size w w' := by
  have := byte_any (UInt8.ofNat n) w
  rw [show ((UInt8.ofNat n).toNat : Int) = (n : Int) by rw [UInt8.toNat_ofNat']; omega] at this
  exact this

/-- Does what stands for a byte stand at a place? -/
theorem match_iff (s : ByteArray) (k : Nat) (hk : k < s.size) (x : UInt8) :
    (k + (byteB x).size ≤ s.size ∧ ((s.extract k (k + (byteB x).size)).toList == (byteB x).toList) = true) ↔ sign (s.data.toList.drop k) = some (x, (byteB x).size - 1) := by
  rw [byteB_size, Lib.toList_data, Lib.toList_data, Lib.extract_data, byteB_data, beq_iff_eq]
  have hlen : s.data.toList.length = s.size := by simp
  constructor
  · rintro ⟨h1, h2⟩
    have h3 : s.data.toList.drop k = signOf x ++ (s.data.toList.drop k).drop (signOf x).length := by
      conv => lhs; rw [← List.take_append_drop (signOf x).length (s.data.toList.drop k)]
      rw [show k + (signOf x).length - k = (signOf x).length by omega] at h2
      rw [h2]
    rw [h3]
    exact sign_signOf x _
  · intro h
    obtain ⟨r, h1, h2⟩ := sign_inv h
    have hl := congrArg List.length h1
    rw [List.length_drop, List.length_append] at hl
    refine ⟨by omega, ?_⟩
    rw [h1, show k + (signOf x).length - k = (signOf x).length by omega, List.take_left]

theorem signOf_le (c : UInt8) : (signOf c).length ≤ 3 := by unfold signOf; split <;> simp
theorem signOf_pos (c : UInt8) : 1 ≤ (signOf c).length := by unfold signOf; split <;> simp

theorem cat_one (T : List UInt8) (x : UInt8) : (⟨(T ++ [x]).toArray⟩ : ByteArray) = ⟨T.toArray⟩ ++ ⟨#[x]⟩ := by
  rw [ByteArray.ext_iff, ByteArray.data_append]; simp
theorem next_no {r : List UInt8} {C z : Nat} (hq : ∀ n, sign r = some (UInt8.ofNat C, n) → n = z) (hn : ∀ j < C, ∀ n, sign r ≠ some (UInt8.ofNat j, n)) (h : sign r ≠ some (UInt8.ofNat C, z)) : ∀ j < C + 1, ∀ n, sign r ≠ some (UInt8.ofNat j, n) := by
  intro j hj n he
  by_cases e : j = C
  · subst e
    obtain rfl := hq n he
    exact h he
  · exact hn j (by omega) n he

/-- What holds in the reference's Begins where it reads on at k, behind the text T. -/
def BRel (s : ByteArray) (k0 : Nat) (w : World) (k : Nat) (T : List UInt8) (w' : World) : Prop :=
  Below w.heap.size w w' ∧ quotedAt s.data.toList k0 = (bodyAt s.data.toList k).map fun p => (T ++ p.1, p.2)

/-- What it holds while the byte at k is looked for. -/
def CRel (s : ByteArray) (w : World) (k : Nat) (T : List UInt8) (a o f c : Value) (w' : World) : Prop :=
  Below w.heap.size w w' ∧ ∃ C : Nat, c = .int .i64 (C : Int) ∧ C ≤ 256 ∧
    ((a = .int .i64 (k : Int) ∧ o = .string ⟨T.toArray⟩ ∧ f = .bool false ∧ ∀ j < C, ∀ n, sign (s.data.toList.drop k) ≠ some (UInt8.ofNat j, n)) ∨
     ∃ (x : UInt8) (n : Nat), a = .int .i64 ((k + n + 1 : Nat) : Int) ∧ o = .string ⟨(T ++ [x]).toArray⟩ ∧ f = .bool true ∧ sign (s.data.toList.drop k) = some (x, n) ∧ k + n + 1 ≤ s.size)

/-- What the reference's Begins tells. -/
def Begun (s : ByteArray) (k0 : Nat) (w : World) (e : Ending) (w' : World) : Prop :=
  Below w.heap.size w w' ∧ ((quotedAt s.data.toList k0 = none ∧ e = .returned (.tuple #[.string ⟨#[]⟩, .int .i64 0, .bool false])) ∨
  ∃ (t : List UInt8) (n : Nat), quotedAt s.data.toList k0 = some (t, n) ∧ e = .returned (.tuple #[.string ⟨t.toArray⟩, .int .i64 (n : Int), .bool true]))

set_option maxHeartbeats 2000000 in
theorem begins_go (s : ByteArray) (k0 : Nat) (w : World) (hs : s.size ≤ 16777216) (hk0 : k0 < s.size) (hq : s[k0].toNat = 34) :
    Calls Try.prog 20 #[.string s, .int .i64 (k0 : Int)] w (Begun s k0 w) := by
  have hk0' : ¬ (s.size : Int) ≤ k0 := by omega
  have b34 : ((s[k0].toNat : Int) != 34) = false := by rw [bne_eq_false_iff_eq]; omega
  have hml : s.size ≤ 9223372036854775807 := by omega
  have hstart : quotedAt s.data.toList k0 = bodyAt s.data.toList (k0 + 1) := by
    rw [quotedAt, dif_pos (by simpa using hk0), if_pos (by rw [get_data s k0 hk0]; exact hq)]
  have HS := Lib.hid hstart
  clear hq hstart
  go_enter Try.func20, Try.ntmps20
  go_wp2_with fail
  go_loopw [1, 7] (fun a o wr => ∃ (k : Nat) (T : List UInt8), a = .int .i64 (k : Int) ∧ o = .string ⟨T.toArray⟩ ∧ k ≤ s.size ∧ T.length ≤ k ∧ BRel s k0 w k T wr) (fun a _ _ => s.size - (intOf a).toNat)
  case atStart => exact ⟨k0 + 1, [], by go_num, rfl, by omega, by simp, Below.refl _ _, by rw [HS.out]; simp⟩
  case round =>
    obtain ⟨k, T, rfl, rfl, hk, hT, hr⟩ := hrel
    obtain ⟨wo, rfl⟩ : ∃ wo : World, wo = wr := ⟨_, rfl⟩
    have hbw := hr.1
    have HB := Lib.hid hr.2
    clear hr hk0' b34
    by_cases hlt : k < s.size
    · have hlt' : (k : Int) < s.size := by omega
      have hl : k < s.data.toList.length := by simpa using hlt
      by_cases h34 : s[k].toNat = 34
      · have b1 : ((s[k].toNat : Int) == 34) = true := beq_iff_eq.2 (by omega)
        have HE := Lib.hid (show quotedAt s.data.toList k0 = some (T, k + 1) by rw [HB.out, bodyAt_end hl (by rw [get_data s k hlt]; exact h34)]; simp)
        clear h34
        go_wp2_with fail
        go_ret3
        exact ⟨hbw, .inr ⟨T, k + 1, HE.out, rfl⟩⟩
      · have b1 : ((s[k].toNat : Int) == 34) = false := beq_eq_false_iff_ne.2 (by omega)
        have g34 : s.data.toList[k].toNat ≠ 34 := by rw [get_data s k hlt]; exact h34
        have HNO := Lib.hid (fun h => show quotedAt s.data.toList k0 = none by rw [HB.out, bodyAt_none hl g34 h]; rfl)
        have HYES := Lib.hid (fun x n (h : sign (s.data.toList.drop k) = some (x, n)) => show quotedAt s.data.toList k0 = (bodyAt s.data.toList (k + n + 1)).map fun p => (T ++ [x] ++ p.1, p.2) by
          rw [HB.out, bodyAt_some hl g34 h]
          cases bodyAt s.data.toList (k + n + 1) with
          | none => rfl
          | some p => simp)
        clear h34 g34 HB
        go_wp2_with fail
        go_loopw [1, 7, 8, 9] (fun a o f c wr => CRel s w k T a o f c wr) (fun _ _ _ c _ => 257 - (intOf c).toNat)
        case atStart => exact ⟨hbw, 0, rfl, by omega, .inl ⟨rfl, rfl, rfl, fun j hj => absurd hj (by omega)⟩⟩
        case round =>
          obtain ⟨hbc, C, rfl, hC, h⟩ := hrel
          rcases h with ⟨rfl, rfl, rfl, hn⟩ | ⟨x, n, rfl, rfl, rfl, hx, hle⟩
          · by_cases hc : C < 256
            · have hc' : (C : Int) < 256 := by omega
              have XB := Lib.hid (byteN_any C hc)
              have hcv := fun W t => conv_byte W (UInt8.ofNat C) (C : Int) (by rw [UInt8.toNat_ofNat']; omega) t
              have hm := match_iff s k hlt (UInt8.ofNat C)
              have hz1 : (byteB (UInt8.ofNat C)).size ≤ 3 := by rw [byteB_size]; exact signOf_le _
              have hz0 : 1 ≤ (byteB (UInt8.ofNat C)).size := by rw [byteB_size]; exact signOf_pos _
              have HQ : ∀ n, sign (s.data.toList.drop k) = some (UInt8.ofNat C, n) → n = (byteB (UInt8.ofNat C)).size - 1 := fun n h => by rw [byteB_size]; obtain ⟨r, h1, h2⟩ := sign_inv h; omega
              generalize byteB (UInt8.ofNat C) = q at *
              have HN := Lib.hid hn
              clear hn
              by_cases h1 : k + q.size ≤ s.size
              · have h1' : (k : Int) + q.size ≤ s.size := by omega
                cases h2 : ((s.extract k (k + q.size)).toList == q.toList) with
                | true =>
                  have HM := Lib.hid (hm.1 ⟨h1, h2⟩)
                  clear hm HQ
                  go_wp2_with (go_at_call 21; refine (XB.out _).mono ?_; rintro e w1 ⟨rfl, hb1⟩)
                  go_roundw
                  case rel =>
                    refine ⟨?_, C + 1, by go_num, by omega, .inr ⟨UInt8.ofNat C, q.size - 1, ?_, ?_, rfl, HM.out, by omega⟩⟩
                    · exact (hbc.trans (hb1.mono hbc.size)).alloc (Nat.le_trans hbc.size hb1.size) _
                    · congr 1; omega
                    · rw [cat_one]
                  case measure => simp [intOf]; omega
                | false =>
                  have HM := Lib.hid (next_no HQ HN.out fun h => by rw [(hm.2 h).2] at h2; cases h2)
                  clear hm HQ
                  go_wp2_with (go_at_call 21; refine (XB.out _).mono ?_; rintro e w1 ⟨rfl, hb1⟩)
                  go_roundw
                  case rel => exact ⟨hbc.trans (hb1.mono hbc.size), C + 1, by go_num, by omega, .inl ⟨rfl, rfl, rfl, HM.out⟩⟩
                  case measure => simp [intOf]; omega
              · have h1' : ¬ (k : Int) + q.size ≤ s.size := by omega
                have HM := Lib.hid (next_no HQ HN.out fun h => h1 (hm.2 h).1)
                clear hm HQ h1 HNO HYES
                have b2 : decide ((k : Int) + (q.size : Int) ≤ (s.size : Int)) = false := decide_eq_false h1'
                clear h1'
                go_wp2_with (go_at_call 21; refine (XB.out _).mono ?_; rintro e w1 ⟨rfl, hb1⟩)
                go_roundw
                case rel => exact ⟨hbc.trans (hb1.mono hbc.size), C + 1, by go_num, by omega, .inl ⟨rfl, rfl, rfl, HM.out⟩⟩
                case measure => simp [intOf]; omega
            · have hc' : ¬ (C : Int) < 256 := by omega
              have hC2 : 256 ≤ C := by omega
              have HE := Lib.hid (HNO.out (by
                cases h : sign (s.data.toList.drop k) with
                | none => rfl
                | some p => obtain ⟨x, n⟩ := p; exact absurd (by rw [h, UInt8.ofNat_toNat]) (hn x.toNat (by have := x.toNat_lt; omega) n)))
              clear hn
              go_wp2_with fail
              go_ret3
              exact ⟨hbc, .inl ⟨HE.out, rfl⟩⟩
          · have HY := Lib.hid (HYES.out x n hx)
            by_cases hc : C < 256
            · have hc' : (C : Int) < 256 := by omega
              go_wp2_with fail
              go_roundw
              case rel => exact ⟨k + n + 1, T ++ [x], rfl, rfl, hle, by simp; omega, hbc, HY.out⟩
              case measure => simp [intOf]; omega
            · have hc' : ¬ (C : Int) < 256 := by omega
              go_wp2_with fail
              go_roundw
              case rel => exact ⟨k + n + 1, T ++ [x], rfl, rfl, hle, by simp; omega, hbc, HY.out⟩
              case measure => simp [intOf]; omega
    · have hlt' : ¬ (k : Int) < s.size := by omega
      have HE := Lib.hid (show quotedAt s.data.toList k0 = none by rw [HB.out, bodyAt_out (by simpa using hlt)]; rfl)
      go_wp2_with fail
      go_ret3
      exact ⟨hbw, .inl ⟨HE.out, rfl⟩⟩

theorem begins_no (s : ByteArray) (k0 : Nat) (w : World) (hs : s.size ≤ 16777216) (h : ∀ hk : k0 < s.size, s[k0].toNat ≠ 34) :
    Calls Try.prog 20 #[.string s, .int .i64 (k0 : Int)] w (Begun s k0 w) := by
  have hq : quotedAt s.data.toList k0 = none := by
    unfold quotedAt
    split
    · rename_i hk
      have hk' : k0 < s.size := by simpa using hk
      rw [if_neg (by rw [get_data s k0 hk']; exact h hk')]
    · rfl
  have HQ := Lib.hid hq
  clear hq
  by_cases hk : k0 < s.size
  · have hk' : ¬ (s.size : Int) ≤ k0 := by omega
    have h1 := h hk
    have b34 : ((s[k0].toNat : Int) != 34) = true := by rw [bne_iff_ne]; omega
    clear h h1
    go_enter Try.func20, Try.ntmps20
    go_wp2_with fail
    go_ret3
    exact ⟨Below.refl _ _, .inl ⟨HQ.out, rfl⟩⟩
  · have hk' : (s.size : Int) ≤ k0 := by omega
    clear h
    go_enter Try.func20, Try.ntmps20
    go_wp2_with fail
    go_ret3
    exact ⟨Below.refl _ _, .inl ⟨HQ.out, rfl⟩⟩

/-- The reference's Begins, at any place. -/
theorem begins_any (s : ByteArray) (k0 : Nat) (w : World) (hs : s.size ≤ 16777216) :
    Calls Try.prog 20 #[.string s, .int .i64 (k0 : Int)] w (Begun s k0 w) := by
  by_cases h : ∃ hk : k0 < s.size, s[k0].toNat = 34
  · obtain ⟨hk, h34⟩ := h
    exact begins_go s k0 w hs hk h34
  · exact begins_no s k0 w hs fun hk h34 => h ⟨hk, h34⟩

end Go.Proofs.Ytnbcalldkjbjjaa
