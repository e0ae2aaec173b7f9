/- The walks of name.Scan and Unquote, and of the reference's Scan. -/
import Derived.Test.YtnbcalldkjbjjaaNameQuoteP
namespace Go.Proofs.Ytnbcalldkjbjjaa
open Go.RowKit Punnet.Name
set_option linter.unusedVariables false

/-- What a scan tells. -/
def scanOf (s : ByteArray) (at_ : Int) : ByteArray × Nat × Int :=
  if at_ < 0 ∨ (s.size : Int) < at_ then (⟨#[]⟩, 0, 2) else
  match quotedAt s.data.toList at_.toNat with
  | none => (⟨#[]⟩, 0, 4)
  | some (t, n) => if 40 < t.length then (⟨#[]⟩, 0, 14) else (⟨t.toArray⟩, n, 0)
def scanV (r : ByteArray × Nat × Int) : Value := .tuple #[.string r.1, .int .i64 (r.2.1 : Int), .int .i64 r.2.2]

theorem scanOf_arg {s : ByteArray} {i : Int} (h : i < 0 ∨ (s.size : Int) < i) : scanOf s i = (⟨#[]⟩, 0, 2) := by unfold scanOf; rw [if_pos h]
theorem scanOf_none {s : ByteArray} {k : Nat} (h : k ≤ s.size) (hq : quotedAt s.data.toList k = none) : scanOf s (k : Int) = (⟨#[]⟩, 0, 4) := by
  unfold scanOf; rw [if_neg (by omega), Int.toNat_natCast, hq]
theorem scanOf_long {s : ByteArray} {k n : Nat} {t : List UInt8} (h : k ≤ s.size) (hq : quotedAt s.data.toList k = some (t, n)) (hl : 40 < t.length) : scanOf s (k : Int) = (⟨#[]⟩, 0, 14) := by
  unfold scanOf; rw [if_neg (by omega), Int.toNat_natCast, hq]; simp only; rw [if_pos hl]
theorem scanOf_fine {s : ByteArray} {k n : Nat} {t : List UInt8} (h : k ≤ s.size) (hq : quotedAt s.data.toList k = some (t, n)) (hl : ¬ 40 < t.length) : scanOf s (k : Int) = (⟨t.toArray⟩, n, 0) := by
  unfold scanOf; rw [if_neg (by omega), Int.toNat_natCast, hq]; simp only; rw [if_neg hl]

theorem ret_scan {r : ByteArray × Nat × Int} {a : ByteArray} {b : Nat} {c : Int} (h : r = (a, b, c)) : Ending.returned (.tuple #[.string a, .int .i64 (b : Int), .int .i64 c]) = .returned (scanV r) := by rw [h]; rfl

theorem row_slice {w : World} {base n : Nat} {e : TypeId} {v : Value} {xs : List Value} (h : w.ownsRow base e 1 v n xs) : ∃ a cap, v = .slice a n cap := by
  rcases h.2 with ⟨rfl, rfl⟩ | ⟨g, cap, cur, rfl, _⟩
  · exact ⟨_, _, rfl⟩
  · exact ⟨_, _, rfl⟩

set_option maxHeartbeats 1000000 in
theorem scan_any (s : ByteArray) (i : Int) (w : World) (hs : s.size ≤ 16777216) (hi : -9223372036854775808 ≤ i ∧ i ≤ 9223372036854775807) :
    Calls Try.prog 17 #[.string s, .int .i64 i] w fun e w' => e = .returned (scanV (scanOf s i)) ∧ Below w.heap.size w w' := by
  by_cases h0 : i < 0
  · have HE := Lib.hid (scanOf_arg (s := s) (.inl h0))
    go_enter Try.func17, Try.ntmps17
    go_wp2_with fail
    go_ret3
    exact ⟨ret_scan HE.out, Below.refl _ _⟩
  by_cases h1 : (s.size : Int) < i
  · have HE := Lib.hid (scanOf_arg (s := s) (.inr h1))
    go_enter Try.func17, Try.ntmps17
    go_wp2_with fail
    go_ret3
    exact ⟨ret_scan HE.out, Below.refl _ _⟩
  obtain ⟨k, rfl⟩ : ∃ k : Nat, i = k := ⟨i.toNat, by omega⟩
  have hk : k ≤ s.size := by omega
  go_enter Try.func17, Try.ntmps17
  go_wp2_with fail
  refine (quoted_any s k _ hs).mono ?_
  rintro e w1 (⟨hq, rfl, hb⟩ | ⟨t, n, v, hq, rfl, ho, hb⟩)
  · have HE := Lib.hid (scanOf_none hk hq)
    clear hq
    go_wp2_with fail
    go_ret3
    exact ⟨ret_scan HE.out, hb⟩
  · have hn := (quotedAt_le hq).2
    have hn' : n ≤ s.size := by simpa using hn
    have HO := Lib.hid (conv_row ho)
    obtain ⟨a, cap, rfl⟩ := row_slice ho
    by_cases hl : 40 < t.length
    · have HE := Lib.hid (scanOf_long hk hq hl)
      have hl' : (40 : Int) < t.length := by omega
      clear hq ho hn
      go_wp2_with fail
      go_ret3
      exact ⟨ret_scan HE.out, hb⟩
    · have HE := Lib.hid (scanOf_fine hk hq hl)
      have hl' : ¬ (40 : Int) < t.length := by omega
      have hcv := HO.out
      clear hq ho hn HO
      go_wp2_with fail
      go_ret3
      exact ⟨ret_scan HE.out, hb⟩

set_option maxHeartbeats 1000000 in
theorem refScan_any (s : ByteArray) (i : Int) (w : World) (hs : s.size ≤ 16777216) (hi : -9223372036854775808 ≤ i ∧ i ≤ 9223372036854775807) :
    Calls Try.prog 18 #[.string s, .int .i64 i] w fun e w' => e = .returned (scanV (scanOf s i)) ∧ Below w.heap.size w w' := by
  by_cases h0 : i < 0
  · have HE := Lib.hid (scanOf_arg (s := s) (.inl h0))
    go_enter Try.func18, Try.ntmps18
    go_wp2_with fail
    go_ret3
    exact ⟨ret_scan HE.out, Below.refl _ _⟩
  by_cases h1 : (s.size : Int) < i
  · have HE := Lib.hid (scanOf_arg (s := s) (.inr h1))
    go_enter Try.func18, Try.ntmps18
    go_wp2_with fail
    go_ret3
    exact ⟨ret_scan HE.out, Below.refl _ _⟩
  obtain ⟨k, rfl⟩ : ∃ k : Nat, i = k := ⟨i.toNat, by omega⟩
  have hk : k ≤ s.size := by omega
  go_enter Try.func18, Try.ntmps18
  go_wp2_with fail
  refine (begins_any s k _ hs).mono ?_
  rintro e w1 ⟨hb, ⟨hq, rfl⟩ | ⟨t, n, hq, rfl⟩⟩
  · have HE := Lib.hid (scanOf_none hk hq)
    clear hq
    go_wp2_with fail
    go_ret3
    exact ⟨ret_scan HE.out, hb⟩
  · have hn := (quotedAt_le hq).2
    have hn' : n ≤ s.size := by simpa using hn
    have hz : (⟨t.toArray⟩ : ByteArray).size = t.length := by simp [ByteArray.size]
    by_cases hl : 40 < t.length
    · have HE := Lib.hid (scanOf_long hk hq hl)
      have hl' : (40 : Int) < (⟨t.toArray⟩ : ByteArray).size := by omega
      generalize (⟨t.toArray⟩ : ByteArray) = tb at *
      clear hq hn hz
      go_wp2_with fail
      go_ret3
      exact ⟨ret_scan HE.out, hb⟩
    · have HE := Lib.hid (scanOf_fine hk hq hl)
      have hl' : ¬ (40 : Int) < (⟨t.toArray⟩ : ByteArray).size := by omega
      generalize (⟨t.toArray⟩ : ByteArray) = tb at *
      clear hq hn hz
      go_wp2_with fail
      go_ret3
      exact ⟨ret_scan HE.out, hb⟩

/-- What Unquote tells. -/
def unquoteOf (s : ByteArray) : ByteArray × Int :=
  if (scanOf s 0).2.2 = 0 then (if (scanOf s 0).2.1 = s.size then ((scanOf s 0).1, 0) else (⟨#[]⟩, 4)) else (⟨#[]⟩, (scanOf s 0).2.2)
theorem ret_unq {r : ByteArray × Int} {a : ByteArray} {c : Int} (h : r = (a, c)) : Ending.returned (.tuple #[.string a, .int .i64 c]) = .returned (.tuple #[.string r.1, .int .i64 r.2]) := by rw [h]

set_option maxHeartbeats 1000000 in
theorem unquote_any (s : ByteArray) (w : World) (hs : s.size ≤ 16777216) :
    Calls Try.prog 16 #[.string s] w fun e w' => e = .returned (.tuple #[.string (unquoteOf s).1, .int .i64 (unquoteOf s).2]) ∧ Below w.heap.size w w' := by
  have S := Lib.hid (fun w => scan_any s 0 w hs (by omega))
  have key : ∃ t n c, scanOf s 0 = (t, n, c) := ⟨_, _, _, rfl⟩
  obtain ⟨t, n, c, hsc⟩ := key
  rw [hsc] at S
  have hu : unquoteOf s = if c = 0 then (if n = s.size then (t, 0) else (⟨#[]⟩, 4)) else (⟨#[]⟩, c) := by unfold unquoteOf; rw [hsc]
  by_cases hc : c = 0
  · subst hc
    rw [if_pos rfl] at hu
    by_cases hn : n = s.size
    · rw [if_pos hn] at hu
      have HU := Lib.hid hu
      have hn' : ((n : Int) != (s.size : Int)) = false := bne_eq_false_iff_eq.2 (by omega)
      clear hu hn hsc
      go_enter Try.func16, Try.ntmps16
      go_wp2_with fail
      refine (S.out _).mono ?_
      rintro e w1 ⟨rfl, hb⟩
      unfold scanV
      go_wp2_with fail
      go_ret2
      exact ⟨ret_unq HU.out, hb⟩
    · rw [if_neg hn] at hu
      have HU := Lib.hid hu
      have hn' : ((n : Int) != (s.size : Int)) = true := bne_iff_ne.2 (by omega)
      clear hu hn hsc
      go_enter Try.func16, Try.ntmps16
      go_wp2_with fail
      refine (S.out _).mono ?_
      rintro e w1 ⟨rfl, hb⟩
      unfold scanV
      go_wp2_with fail
      go_ret2
      exact ⟨ret_unq HU.out, hb⟩
  · rw [if_neg hc] at hu
    have HU := Lib.hid hu
    have hc' : (c != 0) = true := bne_iff_ne.2 hc
    clear hu hc hsc
    go_enter Try.func16, Try.ntmps16
    go_wp2_with fail
    refine (S.out _).mono ?_
    rintro e w1 ⟨rfl, hb⟩
    unfold scanV
    go_wp2_with fail
    go_ret2
    exact ⟨ret_unq HU.out, hb⟩
end Go.Proofs.Ytnbcalldkjbjjaa
