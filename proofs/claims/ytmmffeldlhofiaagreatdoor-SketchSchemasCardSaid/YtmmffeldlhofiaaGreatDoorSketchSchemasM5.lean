/- Part 5 of what the proof of SketchSchemas stands on: NumPrint, NumRefA, NumRefRd, SkOld, SkW4, SkW5, SkW2, SkW6, TrEq, TrTags, TrEdge, SkW7, SkW3, SkW8, SkW9, SkWa, SkD, SkWb, SkR1, SkR2, SkR3, TrSortP, TrRefP, TrRef, SkR4, SkL1, SkE, SkS1. -/
import Derived.Test.YtmmffeldlhofiaaGreatDoorSketchSchemasM4
section
namespace Go.Proofs.YtmmffeldlhofiaaGreatDoor
set_option maxRecDepth 10000
open Go.RowKit Punnet.Num

/-- What holds at the label of num.Print: so much is left, the digits behind are laid. -/
def PrintJ (n : Int) (m : Nat) (w : World) (a' : Act) (w' : World) : Prop :=
  ∃ (left k : Nat) (tail : List UInt8) (A : Array Value) (u6 u7 u8 u9 u10 u11 u12 u13 u14 u15 u16 u17 u18 u19 u20 u21 u22 u23 : Value),
    a' = { tmps := #[.int .i64 n, undef, .string ⟨#[]⟩, .pointer (some ⟨w.heap.size, 0, none⟩), .int .i64 ((k : Int) + 1 + 1), .int .u64 (left : Int), u6, u7, u8, u9, u10, u11, u12, u13, u14, u15, u16, u17, u18, u19, u20, u21, u22, u23, undef, undef, undef, undef, undef, undef, undef, undef, undef], defers := [] } ∧
    w' = w.alloc (.cells A 173) ∧ A.size = 20 ∧ k + 2 + tail.length = 20 ∧ (∀ j (h : j < tail.length), A[k + 2 + j]? = some (.int .u8 (tail[j].toNat : Int))) ∧
    left < 10 ^ (k + 1) ∧ left < 18446744073709551616 ∧ digs m = digs left ++ tail

theorem tail_step {A : Array Value} {tail : List UInt8} {k : Nat} (hA : A.size = 20) (hk : k + 1 + tail.length = 20) (hc : ∀ j (h : j < tail.length), A[k + 1 + j]? = some (.int .u8 (tail[j].toNat : Int)))
    (d : UInt8) (n : Int) (hn : n = d.toNat) :
    ∀ j (h : j < (d :: tail).length), (A.setIfInBounds k (.int .u8 n))[k + j]? = some (.int .u8 ((d :: tail)[j].toNat : Int)) := by
  intro j h
  cases j with
  | zero =>
    have : k < A.size := by omega
    simp [hn, this]
  | succ j =>
    have h' : j < tail.length := by simpa using h
    rw [Array.getElem?_setIfInBounds, if_neg (by omega), show k + (j + 1) = k + 1 + j by omega, hc j h']
    rfl

theorem digit_nat (m : Nat) : (48 + (m : Int) % 10) = ((UInt8.ofNat (48 + m % 10)).toNat : Int) := by
  rw [UInt8.toNat_ofNat']
  omega

theorem slice_text (b : Nat) (W : World) (z : Int) (k : Nat) (hz : z = k) (hk : k < 20) (n : Nat) (hn : n = 20 - k) :
    (Instr.sliceAt 173 (.pointer (some ⟨b, 0, none⟩)) (some (.int .i64 z)) none none).run Tryz.prog W = .ok (.slice (some ⟨b, k, none⟩) n n) W := by
  subst hz hn
  have h : Tryz.prog.arrayLen 173 = 20 := by kernel_rfl
  have hs : ∀ w, (Go.sizeOf (Tryz.prog.elem 173)).run Tryz.prog w = .ok 1 w := fun _ => by kernel_rfl
  have ht : Tryz.prog.underlying 173 = some (.array (Tryz.prog.arrayLen 173) (Tryz.prog.elem 173)) := by kernel_rfl
  rw [run_sliceAt_array_l W _ _ ht .i64 k (by omega) (by omega), hs, h]
  have e : (⟨b, 0, none⟩ : Addr).add k = ⟨b, k, none⟩ := by unfold Addr.add; split <;> simp_all
  simp only [Result.andThen_ok, slicedAt, Int.toNat_natCast, Nat.mul_one, e]
  rw [if_neg (by omega)]

theorem conv_text (w : World) (A : Array Value) (l : List UInt8) (k n : Nat) (hn : n = l.length) (hc : ∀ j (h : j < l.length), A[k + j]? = some (.int .u8 (l[j].toNat : Int))) :
    (convert 133 9 (.slice (some ⟨w.heap.size, k, none⟩) n n)).run Tryz.prog (w.alloc (.cells A 173)) = .ok (.string ⟨l.toArray⟩) (w.alloc (.cells A 173)) := by
  subst hn
  refine run_convert_bytes_back _ 133 9 5 _ _ l Tryz.underlying133 Tryz.underlying5 Tryz.underlying9 fun j hj => ?_
  have e : (⟨w.heap.size, k, none⟩ : Addr).add j = ⟨w.heap.size, k + j, none⟩ := by unfold Addr.add; split <;> simp_all
  rw [← hc j hj, e, World.cell?_alloc_new]

theorem print_next {n : Int} {m left k : Nat} {tail : List UInt8} {A : Array Value} (w : World) (hl64 : left < 18446744073709551616) (h10 : ¬ left < 10) (hA : A.size = 20) (hk : k + 2 + tail.length = 20)
    (hc : ∀ j (h : j < (UInt8.ofNat (48 + left % 10) :: tail).length), (A.setIfInBounds (k + 1) (.int .u8 (48 + (left : Int) % 10)))[k + 1 + j]? = some (.int .u8 ((UInt8.ofNat (48 + left % 10) :: tail)[j].toNat : Int)))
    (hl : left < 10 ^ (k + 1)) (hd : digs m = digs left ++ tail) {u6 u7 u8 u9 u10 u11 u12 u13 u14 u15 u16 u17 u18 u19 u20 u21 u22 u23 : Value} :
    PrintJ n m w { tmps := #[.int .i64 n, undef, .string ⟨#[]⟩, .pointer (some ⟨w.heap.size, 0, none⟩), .int .i64 ((k : Int) + 1), .int .u64 ((left : Int) / 10), u6, u7, u8, u9, u10, u11, u12, u13, u14, u15, u16, u17, u18, u19, u20, u21, u22, u23, undef, undef, undef, undef, undef, undef, undef, undef, undef], defers := [] } (w.alloc (.cells (A.setIfInBounds (k + 1) (.int .u8 (48 + (left : Int) % 10))) 173)) := by
  have hk1 : 1 ≤ k := by
    rcases Nat.eq_zero_or_pos k with rfl | h
    · simp at hl; omega
    · exact h
  obtain ⟨j, rfl⟩ : ∃ j, k = j + 1 := ⟨k - 1, by omega⟩
  refine ⟨left / 10, j, UInt8.ofNat (48 + left % 10) :: tail, _, u6, u7, u8, u9, u10, u11, u12, u13, u14, u15, u16, u17, u18, u19, u20, u21, u22, u23, rfl, rfl, by simpa using hA, by simp; omega, hc, ?_, by omega, ?_⟩
  · rw [Nat.div_lt_iff_lt_mul (by omega)]; exact hl
  · rw [hd, digs_step h10]; simp

set_option maxHeartbeats 400000 in
theorem print_neg (n : Int) (w : World) (h0 : n < 0) (h1 : -9223372036854775808 ≤ n) :
    Calls Tryz.prog 91 #[.int .i64 n] w fun e w' => e = .returned (.string ⟨(print n).toArray⟩) ∧ Below w.heap.size w w' := by
  have hwr : IntKind.u64.wrap (-IntKind.u64.wrap n) = (n.natAbs : Int) := by simp only [IntKind.wrap_u64]; omega
  go_enter Tryz.func91, Tryz.ntmps91
  go_wp2
  refine wp_scope_falls 0 (PrintJ n n.natAbs w) (fun a' _ => (intOf (a'.tmps.getD 5 undef)).toNat) rfl ?_ ?_
  · rintro a' w' ⟨left, k, tail, A, u6, u7, u8, u9, u10, u11, u12, u13, u14, u15, u16, u17, u18, u19, u20, u21, u22, u23, rfl, rfl, hA, hk, hc, hl, hl64, hd⟩
    clear hwr
    have hk20 : k < 19 := by omega
    have hts := tail_step (k := k + 1) hA hk hc (UInt8.ofNat (48 + left % 10)) _ (digit_nat left)
    obtain ⟨v0, hv0⟩ : ∃ v, A[k + 1]? = some v := ⟨_, Array.getElem?_eq_getElem (by omega)⟩
    by_cases h10 : left < 10
    · have h10' : (left : Int) / 10 = 0 := by omega
      obtain ⟨v1, hv1⟩ : ∃ v, (A.setIfInBounds (k + 1) (Value.int IntKind.u8 (48 + ↑left % 10)))[k]? = some v := ⟨_, Array.getElem?_eq_getElem (by simp; omega)⟩
      have hts2 := tail_step (k := k) (A := A.setIfInBounds (k + 1) (Value.int IntKind.u8 (48 + ↑left % 10))) (by simp [hA]) (by simp; omega) hts 45 45 rfl
      obtain ⟨N, hN⟩ : ∃ N, N = 20 - k := ⟨_, rfl⟩
      have hsl := fun b W => slice_text b W k k rfl (by omega) N hN
      have hcv := conv_text w _ _ k N (by simp; omega) hts2
      clear hN
      have HD := Lib.hid (show print n = 45 :: UInt8.ofNat (48 + left % 10) :: tail by
        rw [print, if_pos h0, hd, digs_small h10, Nat.mod_eq_of_lt h10]; rfl)
      clear hA hk hc hl hd hts hts2
      generalize (45 :: UInt8.ofNat (48 + left % 10) :: tail) = L at hcv HD
      go_wp2
      simp only [Exit.jump]
      go_ret
      refine ⟨by rw [HD.out]; rfl, (Below.refl _ _).alloc (Nat.le_refl _) _⟩
    · have h10' : 0 < (left : Int) / 10 := by omega
      have HA := Lib.hid hA
      have HK := Lib.hid hk
      have HC := Lib.hid hts
      have HLE := Lib.hid hl
      have HD := Lib.hid hd
      clear hA hk hc hl hd hts
      go_wp2
      go_step3
      refine ⟨rfl, ?_, ?_⟩
      · exact print_next w (by omega) h10 HA.out HK.out HC.out HLE.out HD.out
      · simp [intOf]
        omega
  intro HL
  go_wp2
  go_step3
  refine (‹∀ (a : Act) (w : World), Code.wp _ _ _ a w → _› : _) _ _ (HL.out _ _ ?_)
  have hdv : (n.natAbs) < 10 ^ 19 := by
    have : n.natAbs ≤ 9223372036854775808 := by omega
    exact Nat.lt_of_le_of_lt this (by decide)
  exact ⟨n.natAbs, 18, [], _, _, _, _, _, _, _, _, _, _, _, _, _, _, _, _, _, _, _, rfl, rfl, rfl, rfl, fun j h => absurd h (by simp), hdv, by omega, by simp⟩
set_option maxHeartbeats 400000 in
theorem print_pos (n : Int) (w : World) (h0 : ¬ n < 0) (h1 : n ≤ 9223372036854775807) :
    Calls Tryz.prog 91 #[.int .i64 n] w fun e w' => e = .returned (.string ⟨(print n).toArray⟩) ∧ Below w.heap.size w w' := by
  have hwr : IntKind.u64.wrap n = (n.natAbs : Int) := by simp only [IntKind.wrap_u64]; omega
  go_enter Tryz.func91, Tryz.ntmps91
  go_wp2
  refine wp_scope_falls 0 (PrintJ n n.natAbs w) (fun a' _ => (intOf (a'.tmps.getD 5 undef)).toNat) rfl ?_ ?_
  · rintro a' w' ⟨left, k, tail, A, u6, u7, u8, u9, u10, u11, u12, u13, u14, u15, u16, u17, u18, u19, u20, u21, u22, u23, rfl, rfl, hA, hk, hc, hl, hl64, hd⟩
    clear hwr
    have hk20 : k < 19 := by omega
    have hts := tail_step (k := k + 1) hA hk hc (UInt8.ofNat (48 + left % 10)) _ (digit_nat left)
    obtain ⟨v0, hv0⟩ : ∃ v, A[k + 1]? = some v := ⟨_, Array.getElem?_eq_getElem (by omega)⟩
    by_cases h10 : left < 10
    · have h10' : (left : Int) / 10 = 0 := by omega
      obtain ⟨N, hN⟩ : ∃ N, N = 20 - (k + 1) := ⟨_, rfl⟩
      have hsl := fun b W => slice_text b W ((k : Int) + 1) (k + 1) rfl (by omega) N hN
      have hcv := conv_text w _ _ (k + 1) N (by simp; omega) hts
      clear hN
      have HD := Lib.hid (show print n = UInt8.ofNat (48 + left % 10) :: tail by
        rw [print, if_neg (by omega), hd, digs_small h10, Nat.mod_eq_of_lt h10]; rfl)
      clear hA hk hc hl hd hts
      generalize (UInt8.ofNat (48 + left % 10) :: tail) = L at hcv HD
      go_wp2
      simp only [Exit.jump]
      go_ret
      refine ⟨by rw [HD.out]; rfl, (Below.refl _ _).alloc (Nat.le_refl _) _⟩
    · have h10' : 0 < (left : Int) / 10 := by omega
      have HA := Lib.hid hA
      have HK := Lib.hid hk
      have HC := Lib.hid hts
      have HLE := Lib.hid hl
      have HD := Lib.hid hd
      clear hA hk hc hl hd hts
      go_wp2
      go_step3
      refine ⟨rfl, ?_, ?_⟩
      · exact print_next w (by omega) h10 HA.out HK.out HC.out HLE.out HD.out
      · simp [intOf]
        omega
  intro HL
  go_wp2
  go_step3
  refine (‹∀ (a : Act) (w : World), Code.wp _ _ _ a w → _› : _) _ _ (HL.out _ _ ?_)
  have hdv : (n.natAbs) < 10 ^ 19 := by
    have : n.natAbs ≤ 9223372036854775808 := by omega
    exact Nat.lt_of_le_of_lt this (by decide)
  exact ⟨n.natAbs, 18, [], _, _, _, _, _, _, _, _, _, _, _, _, _, _, _, _, _, _, _, rfl, rfl, rfl, rfl, fun j h => absurd h (by simp), hdv, by omega, by simp⟩
/-- num.Print: any number of an int64 is printed. -/
theorem print_any (n : Int) (w : World) (h0 : -9223372036854775808 ≤ n) (h1 : n ≤ 9223372036854775807) :
    Calls Tryz.prog 91 #[.int .i64 n] w fun e w' => e = .returned (.string (printB n)) ∧ Below w.heap.size w w' := by
  by_cases h : n < 0
  · exact print_neg n w h h0
  · exact print_pos n w h h1
end Go.Proofs.YtmmffeldlhofiaaGreatDoor
end
section
namespace Go.Proofs.YtmmffeldlhofiaaGreatDoor
set_option linter.unusedVariables false
set_option linter.unusedSimpArgs false
set_option maxRecDepth 10000
open Go.RowKit Punnet.Num

theorem conv_one (W : World) (d : UInt8) (z : Int) (hz : z = d.toNat) (t : TypeId) :
    (convert 133 9 (.slice (some ⟨W.heap.size, 0, none⟩) 1 1)).run Tryz.prog (W.alloc (.cells #[.int .u8 z] t)) = .ok (.string ⟨#[d]⟩) (W.alloc (.cells #[.int .u8 z] t)) := by
  subst hz
  refine run_convert_bytes_back _ 133 9 5 _ _ [d] Tryz.underlying133 Tryz.underlying5 Tryz.underlying9 fun j hj => ?_
  obtain rfl : j = 0 := by simpa using hj
  exact World.cell?_alloc_new _ _ _ _

theorem digit_nat' (m : Nat) : (48 + (m : Int) % 10) = ((UInt8.ofNat (48 + m % 10)).toNat : Int) := by
  rw [UInt8.toNat_ofNat']
  omega
theorem abs_lt {n : Int} (h0 : -9223372036854775808 ≤ n) (h1 : n ≤ 9223372036854775807) : n.natAbs < 10 ^ 19 := by
  have : n.natAbs ≤ 9223372036854775808 := by omega
  exact Nat.lt_of_le_of_lt this (by decide)

theorem refPrint_zero (w : World) : Calls Tryz.prog 68 #[.int .i64 0] w fun e w' => e = .returned (.string (printB 0)) ∧ Below w.heap.size w w' := by
  have HZ := Lib.hid (show printB 0 = ⟨#[48]⟩ by rw [printB, print]; simp [digs_small])
  go_enter Tryz.func68, Tryz.ntmps68
  go_wp2
  go_ret
  exact ⟨by rw [HZ.out]; rfl, Below.refl _ _⟩

set_option maxHeartbeats 400000 in
theorem refPrint_pos (n : Int) (w : World) (h0 : 0 < n) (h1 : n ≤ 9223372036854775807) :
    Calls Tryz.prog 68 #[.int .i64 n] w fun e w' => e = .returned (.string (printB n)) ∧ Below w.heap.size w w' := by
  have hn0 : (n == 0) = false := by simp; omega
  go_enter Tryz.func68, Tryz.ntmps68
  go_wp2
  go_loopw [3, 4] (fun s l wr => ∃ (L : Nat) (tail : List UInt8), l = .int .i64 L ∧ s = .string ⟨tail.toArray⟩ ∧ L ≤ 9223372036854775807 ∧ LeftOf n.natAbs L tail ∧ Below w.heap.size w wr) (fun _ l _ => (intOf l).toNat)
  case atStart => exact ⟨n.natAbs, [], by rw [show ((n.natAbs : Nat) : Int) = n by omega], rfl, by omega, LeftOf.start (by omega), Below.refl _ _⟩
  case round =>
    obtain ⟨L, tail, rfl, rfl, hL, hd, hb⟩ := hrel
    have htl := hd.len (abs_lt (by omega) h1) (by omega)
    have htl' : ¬ 9223372036854775807 < 1 + tail.length := by omega
    by_cases hz : L = 0
    · subst hz
      have HD := Lib.hid hd.done
      clear hd
      go_wp2
      go_ret
      refine ⟨?_, hb⟩
      rw [printB, print, if_neg (by omega), HD.out]
      rfl
    · have hz' : ((L : Int) != 0) = true := by simp; omega
      have hcv := fun W t => conv_one W (UInt8.ofNat (48 + L % 10)) (48 + (L : Int) % 10) (digit_nat' L) t
      have HD := Lib.hid (hd.next hz)
      have hm : 0 ≤ (L : Int) % 10 := by omega
      clear hd
      generalize UInt8.ofNat (48 + L % 10) = d at *
      go_wp2
      go_roundw
      case rel => exact ⟨L / 10, d :: tail, by go_num, rfl, by omega, HD.out, hb.alloc hb.size _⟩
      case measure => simp [intOf]; omega

theorem neg_digit (L : Nat) (h : L ≤ 9223372036854775808) : wrap64 ((-(L : Int)).tmod 10) = -((L % 10 : Nat) : Int) := by
  rw [Int.neg_tmod, show (L : Int).tmod 10 = ((L % 10 : Nat) : Int) from rfl]
  simp only [wrap64]
  omega
theorem neg_rest (L : Nat) (h : L ≤ 9223372036854775808) : wrap64 ((-(L : Int)).tdiv 10) = -((L / 10 : Nat) : Int) := by
  rw [Int.neg_tdiv, show (L : Int).tdiv 10 = ((L / 10 : Nat) : Int) from rfl]
  simp only [wrap64]
  omega

set_option maxHeartbeats 400000 in
theorem refPrint_neg (n : Int) (w : World) (h0 : n < 0) (h1 : -9223372036854775808 ≤ n) :
    Calls Tryz.prog 68 #[.int .i64 n] w fun e w' => e = .returned (.string (printB n)) ∧ Below w.heap.size w w' := by
  have hn0 : (n == 0) = false := by simp; omega
  go_enter Tryz.func68, Tryz.ntmps68
  go_wp2
  go_loopw [3, 4] (fun s l wr => ∃ (L : Nat) (tail : List UInt8), l = .int .i64 (-(L : Int)) ∧ s = .string ⟨tail.toArray⟩ ∧ L ≤ 9223372036854775808 ∧ LeftOf n.natAbs L tail ∧ Below w.heap.size w wr) (fun _ l _ => (-intOf l).toNat)
  case atStart => exact ⟨n.natAbs, [], by rw [show -((n.natAbs : Nat) : Int) = n by omega], rfl, by omega, LeftOf.start (by omega), Below.refl _ _⟩
  case round =>
    obtain ⟨L, tail, rfl, rfl, hL, hd, hb⟩ := hrel
    have htl := hd.len (abs_lt h1 (by omega)) (by omega)
    have htl' : ¬ 9223372036854775807 < 1 + tail.length := by omega
    by_cases hz : L = 0
    · subst hz
      have HD := Lib.hid hd.done
      clear hd
      go_wp2
      go_ret
      refine ⟨?_, hb⟩
      rw [printB, print, if_pos (by omega), HD.out]
      rfl
    · have hz' : (-(L : Int) != 0) = true := by simp; omega
      have hcv := fun W t => conv_one W (UInt8.ofNat (48 + L % 10)) (48 + (L : Int) % 10) (digit_nat' L) t
      have hcv2 : (L : Int) % 10 ≤ 0 → ∀ (W : World) (t : TypeId), (convert 133 9 (.slice (some ⟨W.heap.size, 0, none⟩) 1 1)).run Tryz.prog (W.alloc (.cells #[.int .u8 (48 + -((L : Int) % 10))] t)) = .ok (.string ⟨#[UInt8.ofNat (48 + L % 10)]⟩) (W.alloc (.cells #[.int .u8 (48 + -((L : Int) % 10))] t)) :=
        fun h W t => conv_one W (UInt8.ofNat (48 + L % 10)) (48 + -((L : Int) % 10)) (by rw [← digit_nat']; omega) t
      have HD := Lib.hid (hd.next hz)
      have hm : 0 ≤ (L : Int) % 10 := by omega
      have e1 := neg_digit L hL
      have e2 := neg_rest L hL
      clear hd
      generalize UInt8.ofNat (48 + L % 10) = d at *
      by_cases h10 : 0 < (L : Int) % 10
      · clear hcv2
        go_wp2
        go_roundw
        case rel => exact ⟨L / 10, d :: tail, by go_num, rfl, by omega, HD.out, hb.alloc hb.size _⟩
        case measure => simp [intOf]; omega
      · have hcv2 := hcv2 (by omega)
        clear hcv
        go_wp2
        go_roundw
        case rel => exact ⟨L / 10, d :: tail, by go_num, rfl, by omega, HD.out, hb.alloc hb.size _⟩
        case measure => simp [intOf]; omega

/-- The reference's Print: the same print. -/
theorem refPrint_any (n : Int) (w : World) (h0 : -9223372036854775808 ≤ n) (h1 : n ≤ 9223372036854775807) :
    Calls Tryz.prog 68 #[.int .i64 n] w fun e w' => e = .returned (.string (printB n)) ∧ Below w.heap.size w w' := by
  rcases Int.lt_trichotomy n 0 with h | rfl | h
  · exact refPrint_neg n w h h0
  · exact refPrint_zero w
  · exact refPrint_pos n w h h1

theorem all_dig (s : ByteArray) (h : ∀ j (hj : j < s.size), 48 ≤ s[j].toNat ∧ s[j].toNat ≤ 57) : s.data.toList.all dig = true := by
  rw [List.all_eq_true]
  intro b hb
  obtain ⟨j, hj, rfl⟩ := List.getElem_of_mem hb
  rw [get_list s j (by simpa using hj), dig, decide_eq_true_iff]
  exact h j _
theorem not_all_dig (s : ByteArray) (j : Nat) (hj : j < s.size) (h : ¬ (48 ≤ s[j].toNat ∧ s[j].toNat ≤ 57)) : s.data.toList.all dig = false := by
  rw [Bool.eq_false_iff]
  intro ha
  rw [List.all_eq_true] at ha
  have := ha (s.data.toList[j]'(by simpa using hj)) (List.getElem_mem _)
  rw [get_list s j hj, dig, decide_eq_true_iff] at this
  exact h this

theorem wordOf_pos {s : ByteArray} (h0 : 0 < s.size) (hb : s[0].toNat ≠ 45) : wordOf s.data.toList = (s.data.toList.all dig && !(decide (s[0].toNat = 48) && !(s.toList == [48]))) := by
  have hl : 0 < s.data.toList.length := by simpa using h0
  have hn : neg s.data.toList = 0 := neg_of_dig hl (by rw [get_list s 0 h0]; exact hb)
  have hh : s.data.toList.head? = some s[0] := by
    rw [List.head?_eq_getElem?, List.getElem?_eq_getElem hl, get_list s 0 h0]
  have e : (s[0] = 48) ↔ s[0].toNat = 48 := by rw [← UInt8.toNat_inj]; rfl
  have e2 : decide (s.data.toList ≠ [48]) = !(s.toList == [48]) := by
    rw [Lib.toList_data]
    by_cases h : s.data.toList = [48] <;> simp [h]
  simp only [wordOf, hn, List.drop_zero, hh, Option.some.injEq, e, e2, decide_eq_true hl, Bool.true_and]
theorem wordOf_neg {s : ByteArray} (h0 : 0 < s.size) (hb : s[0].toNat = 45) : wordOf s.data.toList = (decide (0 < (s.extract 1 s.size).size) && (s.extract 1 s.size).data.toList.all dig && !(decide ((s.extract 1 s.size).data.toList.head? = some 48))) := by
  have hl : 0 < s.data.toList.length := by simpa using h0
  have hn : neg s.data.toList = 1 := neg_of_minus hl (by rw [get_list s 0 h0]; exact hb)
  have hd : (s.extract 1 s.size).data.toList = s.data.toList.drop 1 := Lib.extract_to_end s 1
  have hsz : decide (1 < s.data.toList.length) = decide (0 < (s.extract 1 s.size).size) := by
    rw [decide_eq_decide]; simp; omega
  have e2 : decide (s.data.toList ≠ [48]) = true := by
    rw [decide_eq_true_iff]
    intro h
    have h1 := get_list s 0 h0
    simp only [h] at h1
    rw [← h1] at hb
    exact absurd (show (48 : UInt8).toNat = 45 from hb) (by decide)
  simp only [wordOf, hn, hd, hsz, e2, Bool.and_true]

set_option maxHeartbeats 400000 in
theorem word_empty (w : World) : Calls Tryz.prog 159 #[.string ⟨#[]⟩] w fun e w' => e = .returned (.bool false) ∧ w = w' := by
  go_enter Tryz.func159, Tryz.ntmps159
  go_wp2
  go_ret
  exact ⟨rfl, rfl⟩

set_option maxHeartbeats 800000 in
theorem word_pos (s : ByteArray) (w : World) (hs : s.size ≤ maxLen) (h0 : 0 < s.size) (hb : s[0].toNat ≠ 45) :
    Calls Tryz.prog 159 #[.string s] w fun e w' => e = .returned (.bool (wordOf s.data.toList)) ∧ w = w' := by
  unfold maxLen at hs
  have HW := Lib.hid (wordOf_pos h0 hb)
  have h0' : (0 : Int) < s.size := by omega
  have hsz : ((s.size : Int) == 0) = false := beq_eq_false_iff_ne.2 (by omega)
  have b45 : ((s[0].toNat : Int) == 45) = false := beq_eq_false_iff_ne.2 (by omega)
  clear hb
  by_cases hz : s[0].toNat = 48 ∧ (!(s.toList == [48])) = true
  · obtain ⟨hz, h48⟩ := hz
    have HV := Lib.hid (show wordOf s.data.toList = false by rw [HW.out, decide_eq_true hz, h48]; simp)
    have b48 : ((s[0].toNat : Int) == 48) = true := beq_iff_eq.2 (by omega)
    clear hz HW
    go_enter Tryz.func159, Tryz.ntmps159
    go_wp2
    go_ret
    exact ⟨ret_bool HV.out.symm, rfl⟩
  · have HV := Lib.hid (show wordOf s.data.toList = s.data.toList.all dig by
      rw [HW.out]
      by_cases e : s[0].toNat = 48
      · have : (!(s.toList == [48])) = false := by
          rw [Bool.eq_false_iff]; exact fun h => hz ⟨e, h⟩
        rw [this]; simp
      · rw [decide_eq_false e]; simp)
    have key : ((s[0].toNat : Int) == 48) = false ∨ (((s[0].toNat : Int) == 48) = true ∧ (!(s.toList == [48])) = false) := by
      by_cases e : s[0].toNat = 48
      · exact .inr ⟨beq_iff_eq.2 (by omega), by rw [Bool.eq_false_iff]; exact fun h => hz ⟨e, h⟩⟩
      · exact .inl (beq_eq_false_iff_ne.2 (by omega))
    clear hz HW
    rcases key with b48 | ⟨b48, h48⟩
    all_goals
      go_enter Tryz.func159, Tryz.ntmps159
      go_wp2
      go_loop [4] (fun i => ∃ k : Nat, k ≤ s.size ∧ i = .int .i64 k ∧ ∀ j (h : j < s.size), j < k → 48 ≤ s[j].toNat ∧ s[j].toNat ≤ 57) (fun i => s.size - (intOf i).toNat)
      case atStart => exact ⟨0, Nat.zero_le _, rfl, fun _ _ h => absurd h (by omega)⟩
      case round =>
        obtain ⟨k, hk, rfl, hd⟩ := hrel
        have HD := Lib.hid hd
        clear hd
        by_cases hlt : k < s.size
        · by_cases hdk : 48 ≤ s[k].toNat ∧ s[k].toNat ≤ 57
          · obtain ⟨hd1, hd2⟩ := hdk
            have HD2 := Lib.hid (show ∀ j (h : j < s.size), j < k + 1 → 48 ≤ s[j].toNat ∧ s[j].toNat ≤ 57 from fun j h hj => by
              by_cases e : j = k
              · subst e; exact ⟨hd1, hd2⟩
              · exact HD.out j h (by omega))
            go_wp2
            go_round
            case rel => exact ⟨k + 1, by omega, by go_num, HD2.out⟩
            case measure => simp [intOf]; omega
          · have HV2 := Lib.hid (HV.out.trans (not_all_dig s k hlt hdk))
            have hdk' : s[k].toNat < 48 ∨ 57 < s[k].toNat := by omega
            clear hdk
            rcases hdk' with hdk | hdk
            all_goals
              go_wp2
              go_ret
              exact ⟨ret_bool HV2.out.symm, rfl⟩
        · have HV2 := Lib.hid (HV.out.trans (all_dig s fun j h => HD.out j h (by omega)))
          go_wp2
          go_ret
          exact ⟨ret_bool HV2.out.symm, rfl⟩

set_option maxHeartbeats 800000 in
theorem word_neg (s : ByteArray) (w : World) (hs : s.size ≤ maxLen) (h0 : 0 < s.size) (hb : s[0].toNat = 45) :
    Calls Tryz.prog 159 #[.string s] w fun e w' => e = .returned (.bool (wordOf s.data.toList)) ∧ w = w' := by
  unfold maxLen at hs
  have hw := wordOf_neg h0 hb
  have h0' : (0 : Int) < s.size := by omega
  have h1' : (1 : Int) ≤ s.size := by omega
  have b45 : ((s[0].toNat : Int) == 45) = true := beq_iff_eq.2 (by omega)
  obtain ⟨t, ht⟩ : ∃ t, s.extract 1 s.size = t := ⟨_, rfl⟩
  have hts : t.size = s.size - 1 := by rw [← ht]; simp
  rw [ht] at hw
  have ts : t.size ≤ 9223372036854775807 := by omega
  clear hb
  by_cases hz : t.size = 0
  · have HV := Lib.hid (show wordOf s.data.toList = false by rw [hw, hz]; simp)
    have bz : ((t.size : Int) == 0) = true := beq_iff_eq.2 (by omega)
    clear hz hw hts
    go_enter Tryz.func159, Tryz.ntmps159
    go_wp2
    go_ret
    exact ⟨ret_bool HV.out.symm, rfl⟩
  · have bz : ((t.size : Int) == 0) = false := beq_eq_false_iff_ne.2 (by omega)
    have t0 : 0 < t.size := by omega
    have t0' : (0 : Int) < t.size := by omega
    have hh : t.data.toList.head? = some t[0] := by
      rw [List.head?_eq_getElem?, List.getElem?_eq_getElem (by simpa using t0), get_list t 0 t0]
    have e : (t[0] = 48) ↔ t[0].toNat = 48 := by rw [← UInt8.toNat_inj]; rfl
    have h48 : (!(s.toList == [48])) = true := by
      rw [Lib.toList_data]
      by_cases h : s.data.toList = [48]
      · have h1 := get_list s 0 h0
        simp only [h] at h1
        rw [← h1] at b45
        exact absurd (show (((48 : UInt8).toNat : Int) == 45) = true from b45) (by decide)
      · simp [h]
    simp only [hh, Option.some.injEq, e, decide_eq_true t0, Bool.true_and] at hw
    clear hz hts hh e
    by_cases h8 : t[0].toNat = 48
    · have HV := Lib.hid (show wordOf s.data.toList = false by rw [hw, decide_eq_true h8]; simp)
      have b48 : ((t[0].toNat : Int) == 48) = true := beq_iff_eq.2 (by omega)
      clear h8 hw
      go_enter Tryz.func159, Tryz.ntmps159
      go_wp2
      go_ret
      exact ⟨ret_bool HV.out.symm, rfl⟩
    · have HV := Lib.hid (show wordOf s.data.toList = t.data.toList.all dig by rw [hw, decide_eq_false h8]; simp)
      have b48 : ((t[0].toNat : Int) == 48) = false := beq_eq_false_iff_ne.2 (by omega)
      clear h8 hw
      go_enter Tryz.func159, Tryz.ntmps159
      go_wp2
      go_loop [4] (fun i => ∃ k : Nat, k ≤ t.size ∧ i = .int .i64 k ∧ ∀ j (h : j < t.size), j < k → 48 ≤ t[j].toNat ∧ t[j].toNat ≤ 57) (fun i => t.size - (intOf i).toNat)
      case atStart => exact ⟨0, Nat.zero_le _, rfl, fun _ _ h => absurd h (by omega)⟩
      case round =>
        obtain ⟨k, hk, rfl, hd⟩ := hrel
        have HD := Lib.hid hd
        clear hd
        by_cases hlt : k < t.size
        · by_cases hdk : 48 ≤ t[k].toNat ∧ t[k].toNat ≤ 57
          · obtain ⟨hd1, hd2⟩ := hdk
            have HD2 := Lib.hid (show ∀ j (h : j < t.size), j < k + 1 → 48 ≤ t[j].toNat ∧ t[j].toNat ≤ 57 from fun j h hj => by
              by_cases e : j = k
              · subst e; exact ⟨hd1, hd2⟩
              · exact HD.out j h (by omega))
            go_wp2
            go_round
            case rel => exact ⟨k + 1, by omega, by go_num, HD2.out⟩
            case measure => simp [intOf]; omega
          · have HV2 := Lib.hid (HV.out.trans (not_all_dig t k hlt hdk))
            have hdk' : t[k].toNat < 48 ∨ 57 < t[k].toNat := by omega
            clear hdk
            rcases hdk' with hdk | hdk
            all_goals
              go_wp2
              go_ret
              exact ⟨ret_bool HV2.out.symm, rfl⟩
        · have HV2 := Lib.hid (HV.out.trans (all_dig t fun j h => HD.out j h (by omega)))
          go_wp2
          go_ret
          exact ⟨ret_bool HV2.out.symm, rfl⟩

/-- The reference's Word. -/
theorem word_any (s : ByteArray) (w : World) (hs : s.size ≤ maxLen) :
    Calls Tryz.prog 159 #[.string s] w fun e w' => e = .returned (.bool (wordOf s.data.toList)) ∧ w = w' := by
  by_cases h0 : 0 < s.size
  · by_cases hb : s[0].toNat = 45
    · exact word_neg s w hs h0 hb
    · exact word_pos s w hs h0 hb
  · obtain ⟨⟨l⟩⟩ := s
    have : l = [] := by
      have : l.length = 0 := by simpa [ByteArray.size] using h0
      exact List.length_eq_zero_iff.1 this
    subst this
    exact word_empty w

/-- Digits held against others, as the reference's less does. -/
theorem less_any (a b : ByteArray) (w : World) (ha : a.size ≤ maxLen) (hb : b.size ≤ maxLen) :
    Calls Tryz.prog 160 #[.string a, .string b] w fun e w' => e = .returned (.bool (decide (a.size < b.size) || (decide (a.size = b.size) && (Op.bytesLess a.data.toList b.data.toList || a.data.toList == b.data.toList)))) ∧ w = w' := by
  unfold maxLen at ha hb
  rcases Nat.lt_trichotomy a.size b.size with h | h | h
  · have h' : (a.size : Int) < b.size := by omega
    have HV := Lib.hid (decide_eq_true h)
    go_enter Tryz.func160, Tryz.ntmps160
    go_wp2
    go_ret
    exact ⟨ret_bool (by simp [h]), rfl⟩
  · have h' : ¬ (a.size : Int) < b.size := by omega
    have h2 : ((a.size : Int) == b.size) = true := beq_iff_eq.2 (by omega)
    have HV := Lib.hid h
    clear h
    go_enter Tryz.func160, Tryz.ntmps160
    go_wp2
    go_ret
    exact ⟨ret_bool (by simp [HV.out, Lib.toList_data]), rfl⟩
  · have h' : ¬ (a.size : Int) < b.size := by omega
    have h2 : ((a.size : Int) == b.size) = false := beq_eq_false_iff_ne.2 (by omega)
    go_enter Tryz.func160, Tryz.ntmps160
    go_wp2
    go_ret
    exact ⟨ret_bool (by simp; omega), rfl⟩

end Go.Proofs.YtmmffeldlhofiaaGreatDoor
end
section
namespace Go.Proofs.YtmmffeldlhofiaaGreatDoor
set_option linter.unusedVariables false
set_option linter.unusedSimpArgs false
set_option maxRecDepth 10000
open Go.RowKit Punnet.Num

theorem less_any' (a b : ByteArray) (w : World) (ha : a.size ≤ maxLen) (hb : b.size ≤ maxLen) :
    Calls Tryz.prog 160 #[.string a, .string b] w fun e w' => e = .returned (.bool (lessB a.data.toList b.data.toList)) ∧ w = w' := by
  have h := less_any a b w ha hb
  have h1 : a.size = a.data.toList.length := by simp
  have h2 : b.size = b.data.toList.length := by simp
  rw [h1, h2] at h
  exact h

/-- 2^63, as the reference types it. -/
def mostB : ByteArray := ⟨#[57, 50, 50, 51, 51, 55, 50, 48, 51, 54, 56, 53, 52, 55, 55, 53, 56, 48, 56]⟩
def maxB : ByteArray := ⟨#[57, 50, 50, 51, 51, 55, 50, 48, 51, 54, 56, 53, 52, 55, 55, 53, 56, 48, 55]⟩

set_option maxHeartbeats 1000000 in
theorem refRead_neg (s : ByteArray) (w : World) (hs : s.size ≤ maxLen) (h0 : 0 < s.size) (hb : s[0].toNat = 45) (hw : wordOf s.data.toList = true) :
    Calls Tryz.prog 137 #[.string s] w fun e w' => e = .returned (.tuple #[.int .i64 (readOf s.data.toList).1, .int .i64 (readOf s.data.toList).2]) ∧ w = w' := by
  have HW := Lib.hid (word_any s w hs)
  rw [hw] at HW
  have hl : 0 < s.data.toList.length := by simpa using h0
  have hlen : s.data.toList.length = s.size := by simp
  have hn : neg s.data.toList = 1 := neg_of_minus hl (by rw [get_list s 0 h0]; exact hb)
  have iw := isWord hw
  have HR := Lib.hid iw.read
  have hless := iw.less_most
  have hd : (s.extract 1 s.size).data.toList = s.data.toList.drop (neg s.data.toList) := by rw [hn]; exact Lib.extract_to_end s 1
  have HL := Lib.hid (less_any' (s.extract 1 s.size) mostB w (by simp; unfold maxLen at *; omega) (by decide))
  rw [hd] at HL
  rw [show mostB.data.toList = [57, 50, 50, 51, 51, 55, 50, 48, 51, 54, 56, 53, 52, 55, 55, 53, 56, 48, 56] from rfl, hless] at HL
  rw [mostB] at HL
  unfold maxLen at hs
  have h0' : (0 : Int) < s.size := by omega
  have h1' : (1 : Int) ≤ s.size := by omega
  have b45 : ((s[0].toNat : Int) == 45) = true := beq_iff_eq.2 (by omega)
  have b45' : ((s[0].toNat : Int) != 45) = false := by rw [bne, b45]; rfl
  have hdig : ∀ k (h : k < s.size), 0 < k → 48 ≤ s[k].toNat ∧ s[k].toNat ≤ 57 := by
    intro k h hk
    rw [← get_list s k h]
    have := iw.digits (s.data.toList[k]'(by omega)) (by
      rw [hn]
      have e : s.data.toList[k]'(by omega) = (s.data.toList.drop 1)[k - 1]'(by rw [List.length_drop]; omega) := by
        rw [List.getElem_drop]; congr 1; omega
      rw [e]; exact List.getElem_mem _)
    exact this
  have HD := Lib.hid hdig
  by_cases hov : 9223372036854775808 < natOf (s.data.toList.drop (neg s.data.toList))
  · have HV := Lib.hid (show readOf s.data.toList = (0, 3) by rw [HR.out, if_pos hn, if_pos hov])
    rw [decide_eq_false (by omega)] at HL
    clear hb hw hlen hn iw HR hless hd hdig hov HD
    go_enter Tryz.func137, Tryz.ntmps137
    go_wp2_with (first | (go_at_call 159; refine HW.out.mono ?_; rintro e w1 ⟨rfl, rfl⟩) | (go_at_call 160; refine HL.out.mono ?_; rintro e w1 ⟨rfl, rfl⟩))
    go_ret2
    exact ⟨ret2_i64 (by rw [HV.out]), rfl⟩
  · have HV := Lib.hid (show readOf s.data.toList = (-(natOf (s.data.toList.drop (neg s.data.toList)) : Int), 0) by rw [HR.out, if_pos hn, if_neg hov])
    rw [decide_eq_true (by omega)] at HL
    have HO := Lib.hid hov
    have HN := Lib.hid hn
    have hl1 : s.data.toList.length ≤ s.size := by omega
    have hl2 : s.size ≤ s.data.toList.length := by omega
    clear hb hw hlen hn iw HR hless hd hdig hov
    go_enter Tryz.func137, Tryz.ntmps137
    go_wp2_with (first | (go_at_call 159; refine HW.out.mono ?_; rintro e w1 ⟨rfl, rfl⟩) | (go_at_call 160; refine HL.out.mono ?_; rintro e w1 ⟨rfl, rfl⟩))
    go_loop [4, 5] (fun n i => ∃ k S : Nat, k ≤ s.size ∧ i = .int .i64 k ∧ n = .int .i64 (-(S : Int)) ∧ S = pref s.data.toList k) (fun _ i => s.size - (intOf i).toNat)
    case atStart => exact ⟨0, 0, Nat.zero_le _, rfl, rfl, (pref_zero _).symm⟩
    case round =>
      obtain ⟨k, S, hk, rfl, rfl, hS⟩ := hrel
      by_cases hlt : k < s.size
      · have hle := pref_le s.data.toList (k + 1)
        have HO' := HO.out
        by_cases hk0 : k = 0
        · subst hk0
          have HS := Lib.hid hS
          have HP := pref_zero s.data.toList
          clear hS
          have HP1 := Lib.hid (pref_one HN.out)
          rw [HP] at HS
          have HS0 := HS.out
          subst HS0
          clear hle HP HO'
          go_wp2
          go_round
          case rel => exact ⟨1, 0, by omega, rfl, rfl, HP1.out.symm⟩
          case measure => simp [intOf]; omega
        · obtain ⟨d1, d2⟩ := HD.out k hlt (by omega)
          have hst := pref_step (l := s.data.toList) (k := k) (by omega) (by have := HN.out; omega)
          rw [get_list s k hlt, ← hS] at hst
          have HST := Lib.hid hst
          have hbd : 10 * S + (s[k].toNat - 48) ≤ 9223372036854775808 := by omega
          clear hS hst hle HO'
          have hne : ((s[k].toNat : Int) != 45) = true := by rw [bne_iff_ne]; omega
          go_wp2
          go_round
          case rel => exact ⟨k + 1, 10 * S + (s[k].toNat - 48), by omega, by go_num, by go_num, HST.out.symm⟩
          case measure => simp [intOf]; omega
      · have HE := Lib.hid (hS.trans (pref_end (by omega)))
        clear hS
        go_wp2
        go_ret2
        exact ⟨ret2_i64 (by rw [HV.out, HE.out]), rfl⟩

set_option maxHeartbeats 1000000 in
theorem refRead_pos (s : ByteArray) (w : World) (hs : s.size ≤ maxLen) (h0 : 0 < s.size) (hb : s[0].toNat ≠ 45) (hw : wordOf s.data.toList = true) :
    Calls Tryz.prog 137 #[.string s] w fun e w' => e = .returned (.tuple #[.int .i64 (readOf s.data.toList).1, .int .i64 (readOf s.data.toList).2]) ∧ w = w' := by
  have HW := Lib.hid (word_any s w hs)
  rw [hw] at HW
  have hl : 0 < s.data.toList.length := by simpa using h0
  have hlen : s.data.toList.length = s.size := by simp
  have hn : neg s.data.toList = 0 := neg_of_dig hl (by rw [get_list s 0 h0]; exact hb)
  have iw := isWord hw
  have HR := Lib.hid iw.read
  have hless : lessB s.data.toList [57, 50, 50, 51, 51, 55, 50, 48, 51, 54, 56, 53, 52, 55, 55, 53, 56, 48, 55] = decide (natOf (s.data.toList.drop (neg s.data.toList)) ≤ 9223372036854775807) := by
    rw [← iw.less_max]
    rw [hn]; rfl
  have hd : s.data.toList = s.data.toList.drop (neg s.data.toList) := by rw [hn]; rfl
  have HL := Lib.hid (less_any' s maxB w hs (by decide))
  rw [show maxB.data.toList = [57, 50, 50, 51, 51, 55, 50, 48, 51, 54, 56, 53, 52, 55, 55, 53, 56, 48, 55] from rfl, hless] at HL
  rw [maxB] at HL
  unfold maxLen at hs
  have h0' : (0 : Int) < s.size := by omega
  have h1' : (1 : Int) ≤ s.size := by omega
  have b45 : ((s[0].toNat : Int) == 45) = false := beq_eq_false_iff_ne.2 (by omega)
  have b45' : ((s[0].toNat : Int) != 45) = true := by rw [bne, b45]; rfl
  have hdig : ∀ k (h : k < s.size), 48 ≤ s[k].toNat ∧ s[k].toNat ≤ 57 := by
    intro k h
    rw [← get_list s k h]
    have := iw.digits (s.data.toList[k]'(by omega)) (by
      rw [← hd]; exact List.getElem_mem _)
    exact this
  have HD := Lib.hid hdig
  by_cases hov : 9223372036854775807 < natOf (s.data.toList.drop (neg s.data.toList))
  · have HV := Lib.hid (show readOf s.data.toList = (0, 3) by rw [HR.out, if_neg (by omega), if_pos hov])
    rw [decide_eq_false (by omega)] at HL
    clear hb hw hlen hn iw HR hless hd hdig hov HD
    go_enter Tryz.func137, Tryz.ntmps137
    go_wp2_with (first | (go_at_call 159; refine HW.out.mono ?_; rintro e w1 ⟨rfl, rfl⟩) | (go_at_call 160; refine HL.out.mono ?_; rintro e w1 ⟨rfl, rfl⟩))
    go_ret2
    exact ⟨ret2_i64 (by rw [HV.out]), rfl⟩
  · have HV := Lib.hid (show readOf s.data.toList = ((natOf (s.data.toList.drop (neg s.data.toList)) : Int), 0) by rw [HR.out, if_neg (by omega), if_neg hov])
    rw [decide_eq_true (by omega)] at HL
    have HO := Lib.hid hov
    have HN := Lib.hid hn
    have hl1 : s.data.toList.length ≤ s.size := by omega
    have hl2 : s.size ≤ s.data.toList.length := by omega
    clear hb hw hlen hn iw HR hless hd hdig hov
    go_enter Tryz.func137, Tryz.ntmps137
    go_wp2_with (first | (go_at_call 159; refine HW.out.mono ?_; rintro e w1 ⟨rfl, rfl⟩) | (go_at_call 160; refine HL.out.mono ?_; rintro e w1 ⟨rfl, rfl⟩))
    go_loop [4, 5] (fun n i => ∃ k S : Nat, k ≤ s.size ∧ i = .int .i64 k ∧ n = .int .i64 (-(S : Int)) ∧ S = pref s.data.toList k) (fun _ i => s.size - (intOf i).toNat)
    case atStart => exact ⟨0, 0, Nat.zero_le _, rfl, rfl, (pref_zero _).symm⟩
    case round =>
      obtain ⟨k, S, hk, rfl, rfl, hS⟩ := hrel
      by_cases hlt : k < s.size
      · have hle := pref_le s.data.toList (k + 1)
        have HO' := HO.out
        obtain ⟨d1, d2⟩ := HD.out k hlt
        have hst := pref_step (l := s.data.toList) (k := k) (by omega) (by have := HN.out; omega)
        rw [get_list s k hlt, ← hS] at hst
        have HST := Lib.hid hst
        have hbd : 10 * S + (s[k].toNat - 48) ≤ 9223372036854775807 := by omega
        clear hS hst hle HO'
        have hne : ((s[k].toNat : Int) != 45) = true := by rw [bne_iff_ne]; omega
        go_wp2
        go_round
        case rel => exact ⟨k + 1, 10 * S + (s[k].toNat - 48), by omega, by go_num, by go_num, HST.out.symm⟩
        case measure => simp [intOf]; omega
      · have HE := Lib.hid (hS.trans (pref_end (by omega)))
        have hSb : S ≤ 9223372036854775807 := by have h1 := HE.out; have h2 := HO.out; omega
        clear hS
        go_wp2
        go_ret2
        exact ⟨ret2_i64 (by rw [HV.out, HE.out]), rfl⟩

set_option maxHeartbeats 400000 in
theorem refRead_no (s : ByteArray) (w : World) (hs : s.size ≤ maxLen) (hw : wordOf s.data.toList = false) :
    Calls Tryz.prog 137 #[.string s] w fun e w' => e = .returned (.tuple #[.int .i64 0, .int .i64 4]) ∧ w = w' := by
  have HW := Lib.hid (word_any s w hs)
  rw [hw] at HW
  clear hw
  go_enter Tryz.func137, Tryz.ntmps137
  go_wp2_with (go_at_call 159; refine HW.out.mono ?_; rintro e w1 ⟨rfl, rfl⟩)
  go_ret2
  exact ⟨rfl, rfl⟩

/-- The reference's Read tells what num.Read tells. -/
theorem refRead_any (s : ByteArray) (w : World) (hs : s.size ≤ maxLen) :
    Calls Tryz.prog 137 #[.string s] w fun e w' => e = .returned (.tuple #[.int .i64 (readOf s.data.toList).1, .int .i64 (readOf s.data.toList).2]) ∧ w = w' := by
  cases hw : wordOf s.data.toList with
  | false => rw [read_no_word hw]; exact refRead_no s w hs hw
  | true =>
    have h0 : 0 < s.size := by
      have := (isWord hw).some_
      have h2 : s.data.toList.length = s.size := by simp
      omega
    by_cases hb : s[0].toNat = 45
    · exact refRead_neg s w hs h0 hb hw
    · exact refRead_pos s w hs h0 hb hw

end Go.Proofs.YtmmffeldlhofiaaGreatDoor
end
section
namespace Go.Vm
open Go.RowKit Go.Proofs Go.Proofs.YtmmffeldlhofiaaGreatDoor Punnet.Name Punnet.Num
set_option linter.unusedVariables false
theorem numPrint_any (n : Int) (h : inI64 n) : Contract Tryz.prog 91 [.sc (.int .i64 n)] [.d (.sc (.string (printB n)))] :=
  old_one (us := [.int .i64 n]) rfl fun w => print_any n w (by omega) (by omega)
theorem refPrint_c (n : Int) (h : inI64 n) : Contract Tryz.prog 68 [.sc (.int .i64 n)] [.d (.sc (.string (printB n)))] :=
  old_one (us := [.int .i64 n]) rfl fun w => refPrint_any n w (by omega) (by omega)
theorem numRead_any (s : ByteArray) (h : s.size ≤ 1000000) : Contract Tryz.prog 116 [.sc (.string s)] [.d (.sc (.int .i64 (numW s).1)), .d (.sc (.int .i64 (numW s).2))] :=
  old_tup (us := [.string s]) (rs := []) (by simp [plainV]) fun w => read_any s w (by unfold maxLen; omega)
theorem refNumRead_any (s : ByteArray) (h : s.size ≤ 1000000) : Contract Tryz.prog 137 [.sc (.string s)] [.d (.sc (.int .i64 (numW s).1)), .d (.sc (.int .i64 (numW s).2))] :=
  old_tup (us := [.string s]) (rs := []) (by simp [plainV]) fun w => (refRead_any s w (by unfold maxLen; omega)).mono (by rintro e w' ⟨rfl, rfl⟩; exact ⟨rfl, Below.refl _ _⟩)
theorem quote_any (s : ByteArray) (h : s.size ≤ 40) : Contract Tryz.prog 132 [.sc (.string s)] [.d (.sc (.string (quoteB s))), .d (.sc (.int .i64 0))] :=
  old_tup (us := [.string s]) (rs := []) (by simp [plainV]) fun w => quote_go s w h
theorem refQuote_c (s : ByteArray) (h : s.size ≤ 1000000) : Contract Tryz.prog 69 [.sc (.string s)] [.d (.sc (.string (quoteB s)))] :=
  old_one (us := [.string s]) rfl fun w => refQuote_any s w (by omega)
theorem unquote_c (s : ByteArray) (h : s.size ≤ 1000000) : Contract Tryz.prog 117 [.sc (.string s)] [.d (.sc (.string (unquoteOf s).1)), .d (.sc (.int .i64 (unquoteOf s).2))] :=
  old_tup (us := [.string s]) (rs := []) (by simp [plainV]) fun w => unquote_any s w (by omega)
theorem refScan_c (s : ByteArray) (h : s.size ≤ 1000000) : Contract Tryz.prog 138 [.sc (.string s), .sc (.int .i64 0)] [.d (.sc (.string (scanOf s 0).1)), .d (.sc (.int .i64 ((scanOf s 0).2.1 : Nat))), .d (.sc (.int .i64 (scanOf s 0).2.2))] :=
  old_tup (us := [.string s, .int .i64 0]) (r1 := .string (scanOf s 0).1) (r2 := .int .i64 ((scanOf s 0).2.1 : Nat)) (rs := [.int .i64 (scanOf s 0).2.2]) (by simp [plainV]) fun w => refScan_any s 0 w (by omega) (by omega)
theorem nameSplit_any (s : ByteArray) (h : s.size ≤ 1000000) : Contract Tryz.prog 98 [.sc (.string s)] [.d (.row ((splitB s 0).map strD))] :=
  old_strs (us := [.string s]) fun w => split_any s w (by omega)
theorem refSplit_c (s : ByteArray) (h : s.size ≤ 1000000) : Contract Tryz.prog 55 [.sc (.string s)] [.d (.row ((splitB s 0).map strD))] :=
  old_strs (us := [.string s]) fun w => refSplit_any s w (by omega)
end Go.Vm
end
section
namespace Go.Vm
open Go.RowKit Go.Proofs
set_option linter.unusedVariables false
set_option linter.unusedSimpArgs false
set_option maxRecDepth 10000

open Go.Proofs.YtmmffeldlhofiaaGreatDoor Punnet.Name Punnet.Num

theorem cut_yes {c : UInt8} {s : ByteArray} {a r : List UInt8} (hd : s.data.toList = a ++ c :: r) (hc : c ∉ a) : mkB (cutC c s.data.toList).1 = s.extract 0 a.length ∧ mkB (cutC c s.data.toList).2.1 = s.extract (a.length + 1) s.size ∧ (cutC c s.data.toList).2.2 = true := by
  rw [hd, cutC_hit hc]
  refine ⟨ba_ext ?_, ba_ext ?_, rfl⟩
  · rw [mkB_data, ext_data, hd, List.drop_zero, List.take_left]
  · rw [mkB_data, ext_data, ← ba_len, List.take_length, hd, ← List.drop_drop, List.drop_left]; rfl
theorem cut_cases (c : UInt8) (s : ByteArray) : (Lib.index s.data.toList [c] = -1 ∧ c ∉ s.data.toList) ∨ ∃ a r, s.data.toList = a ++ c :: r ∧ c ∉ a ∧ Lib.index s.data.toList [c] = (a.length : Int) := idx_cases _

set_option maxHeartbeats 1000000 in
theorem liteCut_any (c : UInt8) (s : ByteArray) (hs : s.size ≤ 1000000) : Contract Tryz.prog 158 [.sc (.string (s)), .sc (.string (⟨#[c]⟩))] [.d (.sc (.string (mkB (cutC c s.data.toList).1))), .d (.sc (.string (mkB (cutC c s.data.toList).2.1))), .d (.sc (.bool ((cutC c s.data.toList).2.2)))] := by
 refine T.fn [] Tryz.func158 ?_
 have hcc := cut_cases c s
 refine x_call T.en_182 (index1_any c s) ?_
 refine br (fun hc1 => ?y1) (fun hc1 => ?n1)
 case' y1 =>
  obtain ⟨a, r, hd, hc, hi⟩ := hcc.resolve_left (fun k => by rw [k.1] at hc1; exact absurd hc1 (by decide))
  have h9 : s.size = a.length + (1 + r.length) := by rw [← ba_len, hd, List.length_append, List.length_cons]; omega
  have hq := cut_yes hd hc
  refine And.intro ⟨T.mixed, by decide +kernel⟩ ?_
  first | refine x_bnd ?_ | refine x_bndI ?_
  refine x_str ?_ (h1 := by (first | omega | (rw [hi, h9]; simp [lit_size]; omega) | (simp [lit_size]; omega))) (h2 := by (first | omega | (rw [hi, h9]; simp [lit_size]; omega) | (simp [lit_size]; omega)))
  refine x_len ?_
  first | refine x_inc ?_ (h := by (first | omega | (rw [hi, h9]; simp [lit_size]; omega) | (simp [lit_size]; omega))) | refine x_add ?_ (h := by first | exact IntWalk.i64_in _ (by (first | omega | (rw [hi, h9]; simp [lit_size]; omega) | (simp [lit_size]; omega))) | rfl) | refine x_bin rfl rfl ?_
  first | refine x_bnd ?_ | refine x_bndI ?_
  refine x_str ?_ (h1 := by (first | omega | (rw [hi, h9]; simp [lit_size]; omega) | (simp [lit_size]; omega))) (h2 := by (first | omega | (rw [hi, h9]; simp [lit_size]; omega) | (simp [lit_size]; omega)))
 case' n1 =>
  obtain ⟨hi, hc⟩ := hcc.resolve_right (fun ⟨a, r, _, _, k⟩ => by rw [k] at hc1; exact hc1 (by omega))
 all_goals (refine x_ret ?_; simp only [fitsL, fits, C.asD, and_true] <;> (first | (rw [cutC_miss hc]; exact ⟨sct (mkB_of s).symm, rfl, rfl⟩) | (rw [hq.2.2, hq.1, hq.2.1, hi]; exact ⟨rfl, rfl, rfl⟩)))
end Go.Vm
end
section
namespace Go.Vm
open Go.RowKit Go.Proofs
set_option linter.unusedVariables false
set_option linter.unusedSimpArgs false
set_option maxRecDepth 10000

open Go.Proofs.YtmmffeldlhofiaaGreatDoor Punnet.Name Punnet.Num

theorem cut_sizes (c : UInt8) (s : ByteArray) : (mkB (cutC c s.data.toList).1).size ≤ s.size ∧ (mkB (cutC c s.data.toList).2.1).size ≤ s.size := by
  rcases cut_cases c s with ⟨_, h⟩ | ⟨a, r, hd, hc, _⟩
  · rw [cutC_miss h, mkB_of]; exact ⟨Nat.le_refl _, Nat.zero_le _⟩
  · have hl : s.size = a.length + (1 + r.length) := by rw [← ba_len, hd, List.length_append, List.length_cons]; omega
    rw [hd, cutC_hit hc]
    have q1 : (mkB a).size = a.length := by rw [← ba_len, mkB_data]
    have q2 : (mkB r).size = r.length := by rw [← ba_len, mkB_data]
    exact ⟨by show (mkB a).size ≤ _; omega, by show (mkB r).size ≤ _; omega⟩
theorem print_size {n : Int} (h : inI64 n) : (printB n).size ≤ 30 := by
  rw [printB_size, print_len]
  have := digs_len (m := n.natAbs) (k := 19) (by have := h.1; have := h.2; omega) (by decide)
  split <;> omega
def quotedR (s : ByteArray) : ByteArray × Bool := ((scanOf s 0).1, decide ((scanOf s 0).2.2 = 0) && decide ((((scanOf s 0).2.1 : Nat) : Int) = (s.size : Int)))
theorem quotedR_text {s : ByteArray} (h : (quotedR s).2 = true) : quoteB (quotedR s).1 = s ∧ (quotedR s).1.size ≤ 40 := by
  unfold quotedR at h ⊢
  simp only [Bool.and_eq_true, decide_eq_true_eq] at h ⊢
  obtain ⟨h1, h2⟩ := h
  cases hq : quotedAt s.data.toList 0 with
  | none => rw [show (0 : Int) = ((0 : Nat) : Int) from rfl, scanOf_none (Nat.zero_le _) hq] at h1; exact absurd h1 (by decide)
  | some p =>
    obtain ⟨t, n⟩ := p
    by_cases hl : 40 < t.length
    · rw [show (0 : Int) = ((0 : Nat) : Int) from rfl, scanOf_long (Nat.zero_le _) hq hl] at h1; exact absurd h1 (by decide)
    · have hs := scanOf_fine (s := s) (k := 0) (Nat.zero_le _) hq hl
      rw [show ((0 : Nat) : Int) = 0 from rfl] at hs
      rw [hs] at h2 ⊢
      obtain ⟨i1, i2⟩ := quotedAt_inv hq
      refine ⟨ba_ext ?_, by show (mkB t).size ≤ 40; rw [← ba_len, mkB_data]; omega⟩
      unfold quoteB
      rw [mkB_data]
      show quoteL (mkB t).data.toList = _
      rw [mkB_data]
      have hn : n = s.size := by simp only at h2; omega
      rw [List.drop_zero, hn, List.drop_of_length_le (by rw [ba_len]; omega), List.append_nil] at i1
      exact i1.symm
def CutI (c : UInt8) (s : ByteArray) (i fr : Nat) (out : List ByteArray) : Prop := fr ≤ i ∧ i ≤ s.size ∧ splitW c s = out ++ (splitC c (s.data.toList.drop fr)).map mkB ∧ c ∉ (s.data.toList.take i).drop fr ∧ out.length ≤ i
theorem CutI.start (c : UInt8) (s : ByteArray) : CutI c s 0 0 [] := ⟨Nat.le_refl _, Nat.zero_le _, by rw [List.drop_zero]; rfl, by simp, Nat.le_refl _⟩
theorem take_get {l : List UInt8} {i fr : Nat} {b : UInt8} (h : l[i]? = some b) (hf : fr ≤ i) : (l.take (i + 1)).drop fr = (l.take i).drop fr ++ [b] := by
  rw [List.take_add_one, h, List.drop_append_of_le_length (by rw [List.length_take]; have := (List.getElem?_eq_some_iff.1 h).1; omega)]; rfl
theorem CutI.miss {c b : UInt8} {s : ByteArray} {i fr : Nat} {out : List ByteArray} (h : CutI c s i fr out) (hb : s[i]? = some b) (hn : ¬ b = c) : CutI c s (i + 1) fr out := by
  obtain ⟨h1, h2, h3, h4, h5⟩ := h
  rw [get_data'] at hb
  have hl := (List.getElem?_eq_some_iff.1 hb).1
  rw [ba_len] at hl
  refine ⟨by omega, by omega, h3, ?_, by omega⟩
  rw [take_get hb h1]
  intro k
  rcases List.mem_append.1 k with k | k
  · exact h4 k
  · rw [List.mem_singleton] at k; exact hn k.symm
theorem CutI.hit {c : UInt8} {s : ByteArray} {i fr : Nat} {out : List ByteArray} (h : CutI c s i fr out) (hb : s[i]? = some c) : CutI c s (i + 1) (i + 1) (out ++ [s.extract fr i]) := by
  obtain ⟨h1, h2, h3, h4, h5⟩ := h
  rw [get_data'] at hb
  have hl := (List.getElem?_eq_some_iff.1 hb).1
  have hd : s.data.toList.drop fr = (s.data.toList.take i).drop fr ++ c :: s.data.toList.drop (i + 1) := by
    have e : s.data.toList = s.data.toList.take i ++ c :: s.data.toList.drop (i + 1) := by
      conv => lhs; rw [← List.take_append_drop i s.data.toList]
      rw [List.drop_eq_getElem_cons hl, (List.getElem?_eq_some_iff.1 hb).2]
    conv => lhs; rw [e]
    rw [List.drop_append_of_le_length (by rw [List.length_take]; omega)]
  rw [ba_len] at hl
  refine ⟨Nat.le_refl _, by omega, ?_, ?_, by rw [List.length_append, List.length_singleton]; omega⟩
  · rw [h3, hd, splitC_app _ h4, List.map_cons, List.append_assoc]
    congr 1
    rw [List.singleton_append]
    congr 1
    apply ba_ext
    rw [mkB_data, ext_data]
  · rw [List.drop_of_length_le (by rw [List.length_take]; omega)]; simp
theorem CutI.done {c : UInt8} {s : ByteArray} {fr : Nat} {out : List ByteArray} (h : CutI c s s.size fr out) : splitW c s = out ++ [s.extract fr s.size] := by
  obtain ⟨h1, h2, h3, h4, h5⟩ := h
  rw [← ba_len, List.take_length] at h4
  rw [h3, splitC_free h4]
  congr 1
  rw [List.map_cons, List.map_nil]
  congr 1
  apply ba_ext
  rw [mkB_data, ext_data, ← ba_len, List.take_length]
theorem str_ix {s : ByteArray} {k : Nat} {c : UInt8} (h : s[k]? = some c) : s[((k : Nat) : Int).toNat]? = some c := by rw [Int.toNat_natCast]; exact h
theorem strs_snoc {l : List ByteArray} {a : ByteArray} : l.map strD ++ [strD a] = (l ++ [a]).map strD := by simp

set_option maxHeartbeats 1000000 in
theorem cut1_any (c : UInt8) (s : ByteArray) (hs : s.size ≤ 1000000) : Contract Tryz.prog 136 [.sc (.string (s)), .sc (.string (⟨#[c]⟩))] [.d (.sc (.string (mkB (cutC c s.data.toList).1))), .d (.sc (.string (mkB (cutC c s.data.toList).2.1))), .d (.sc (.bool ((cutC c s.data.toList).2.2)))] := by
 refine T.fn [] Tryz.func136 ?_
 refine x_call T.en_158 (liteCut_any c s hs) ?_
 all_goals (refine x_ret ?_; simp only [fitsL, fits, C.asD, and_true] <;> (exact ⟨rfl, rfl, rfl⟩))

set_option maxHeartbeats 1000000 in
theorem scriptTag_any (t : TagD) (h : tagIn t) : Contract Tryz.prog 48 [tD t] [.d (.sc (.string (tagT t)))] := by
 refine T.fn [] Tryz.func48 ?_
 have z1 := print_size h.1
 have z2 := print_size h.2
 refine And.intro ⟨T.mixed, by decide +kernel⟩ ?_
 refine x_call T.en_91 (numPrint_any t.r h.1) ?_
 refine x_cat ?_ (h := by ((simp only [ByteArray.size_append, lit_size, List.size_toArray, List.length_cons, List.length_nil]; omega)))
 refine x_call T.en_91 (numPrint_any t.n h.2) ?_
 refine x_cat ?_ (h := by ((simp only [ByteArray.size_append, lit_size, List.size_toArray, List.length_cons, List.length_nil]; omega)))
 all_goals (refine x_ret ?_; simp only [fitsL, fits, C.asD, and_true] <;> (refine sct (ba_ext ?_); simp [ba_app, tagT, printB]))

set_option maxHeartbeats 1000000 in
theorem scriptReadTag_any (s : ByteArray) (hs : s.size ≤ 1000000) : Contract Tryz.prog 99 [.sc (.string (s))] [.d (tD ((tagOf s).getD noTag)), .d (.sc (.int .i64 ((if (tagOf s).isSome = true then 0 else 4))))] := by
 refine T.fn [] Tryz.func99 ?_
 have hcs := cut_sizes 46 s
 refine x_call T.en_136 (cut1_any 46 s hs) ?_
 refine x_call T.en_116 (numRead_any (mkB (cutC 46 s.data.toList).1) (by omega)) ?_
 refine x_call T.en_116 (numRead_any (mkB (cutC 46 s.data.toList).2.1) (by omega)) ?_
 refine br (fun hg1 => ?y1) (fun hg1 => ?n1)
 case' y1 =>
  have hN := tag_cutC_no (s := s) (a := (cutC 46 s.data.toList).1) (b := (cutC 46 s.data.toList).2.1) (f := (cutC 46 s.data.toList).2.2) rfl (fun k => hg1 (by rw [show (numW (mkB (cutC 46 s.data.toList).1)).2 = (readOf (cutC 46 s.data.toList).1).2 by rw [show numW (mkB (cutC 46 s.data.toList).1) = readOf (mkB (cutC 46 s.data.toList).1).data.toList from rfl, mkB_data]]; exact k.1))
  refine brT ?_
 case' n1 =>
  refine br (fun hc3 => ?y3) (fun hc3 => ?n3)
  case' y3 =>
   have hN := tag_cutC_no (s := s) (a := (cutC 46 s.data.toList).1) (b := (cutC 46 s.data.toList).2.1) (f := (cutC 46 s.data.toList).2.2) rfl (fun k => hc3 (by rw [show (numW (mkB (cutC 46 s.data.toList).2.1)).2 = (readOf (cutC 46 s.data.toList).2.1).2 by rw [show numW (mkB (cutC 46 s.data.toList).2.1) = readOf (mkB (cutC 46 s.data.toList).2.1).data.toList from rfl, mkB_data]]; exact k.2))
  case' n3 =>
   have e1 : numW (mkB (cutC 46 s.data.toList).1) = readOf (cutC 46 s.data.toList).1 := by rw [show numW (mkB (cutC 46 s.data.toList).1) = readOf (mkB (cutC 46 s.data.toList).1).data.toList from rfl, mkB_data]
   have e2 : numW (mkB (cutC 46 s.data.toList).2.1) = readOf (cutC 46 s.data.toList).2.1 := by rw [show numW (mkB (cutC 46 s.data.toList).2.1) = readOf (mkB (cutC 46 s.data.toList).2.1).data.toList from rfl, mkB_data]
   have hY := tag_cutC (s := s) (a := (cutC 46 s.data.toList).1) (b := (cutC 46 s.data.toList).2.1) (f := (cutC 46 s.data.toList).2.2) rfl (by rw [← e1]; simp_all) (by rw [← e2]; simp_all)
 all_goals (refine x_ret ?_; simp only [fitsL, fits, C.asD, and_true] <;> (first | (rw [hN]; exact ⟨rfl, rfl⟩) | (rw [hY, e1, e2]; exact ⟨rfl, rfl⟩)))

set_option maxHeartbeats 1000000 in
theorem ref36Number_any (s : ByteArray) (hs : s.size ≤ 1000000) : Contract Tryz.prog 103 [.sc (.string (s))] [.d (.sc (.int .i64 ((numW s).1))), .d (.sc (.bool (decide ((numW s).2 = 0))))] := by
 refine T.fn [] Tryz.func103 ?_
 refine x_call T.en_137 (refNumRead_any s hs) ?_
 all_goals (refine x_ret ?_; simp only [fitsL, fits, C.asD, and_true] <;> (first | exact ⟨rfl, rfl⟩ | simp))

set_option maxHeartbeats 1000000 in
theorem skQuote_any (s : ByteArray) (hs : s.size ≤ 40) : Contract Tryz.prog 93 [.sc (.string (s))] [.d (.sc (.string (quoteB s)))] := by
 refine T.fn [] Tryz.func93 ?_
 refine x_call T.en_132 (quote_any s hs) ?_
 all_goals (refine x_ret ?_; simp only [fitsL, fits, C.asD, and_true] <;> (rfl))

set_option maxHeartbeats 1000000 in
theorem refQuoted_any (s : ByteArray) (hs : s.size ≤ 1000000) : Contract Tryz.prog 104 [.sc (.string (s))] [.d (.sc (.string ((quotedR s).1))), .d (.sc (.bool ((quotedR s).2)))] := by
 refine T.fn [] Tryz.func104 ?_
 refine x_call T.en_138 (refScan_c s hs) ?_
 refine br (fun hg1 => ?y1) (fun hg1 => ?n1)
 case' y1 =>
  refine x_len ?_
 all_goals (refine x_ret ?_; simp only [fitsL, fits, C.asD, and_true] <;> (unfold quotedR; first | exact ⟨rfl, rfl⟩ | (simp_all; done)))

set_option maxHeartbeats 1000000 in
theorem refCut_any (c : UInt8) (s : ByteArray) (hs : s.size ≤ 1000000) : Contract Tryz.prog 123 [.sc (.string (s)), .sc (.int .u8 ((c.toNat : Nat) : Int))] [.d (.row ((splitW c s).map strD))] := by
 refine T.fn [] Tryz.func123 ?_
 refine xloopR (fb := []) T.ok (Nat.le_of_ble_eq_true rfl) [0, 1] (fun (t : Nat × Nat × List ByteArray) => [(7, .c (.d (.sc (.int .i64 (((t.1 : Nat) : Int)))))), (6, .c (.d (.sc (.int .i64 (((t.2.1 : Nat) : Int)))))), (5, .c (.own 8 9 ((Prod.snd (Prod.snd t)).map strD)))]) (fun t => CutI c s t.1 t.2.1 t.2.2) (fun t => s.size - t.1) (0, 0, []) (CutI.start c s) (x_ent (by first | rfl | (simp only [Tr.get]; simp; done)) (x_ent (by first | rfl | (simp only [Tr.get]; simp; done)) (x_ent (by first | rfl | (simp only [Tr.get]; simp; done)) trivial))) ?_
 rintro t hi
 have hi1 := hi.1
 have hi2 := hi.2.1
 have hi5 := hi.2.2.2.2
 refine x_len ?_
 refine br (fun hc1 => ?y1) (fun hc1 => ?n1)
 case' y1 =>
  obtain ⟨b, hb⟩ : ∃ b, s[t.1]? = some b := ⟨_, getElem?_pos s t.1 (by omega)⟩
  first | refine x_ch (by exact str_ix hb) ?_ | refine x_chI (by exact str_ix hb) ?_
  refine br (fun hc2 => ?y2) (fun hc2 => ?n2)
  case' y2 =>
   have hbc : b = c := by rw [← UInt8.toNat_inj]; omega
   first | refine x_bnd ?_ | refine x_bndI ?_
   first | refine x_bnd ?_ | refine x_bndI ?_
   refine x_str ?_ (h1 := by ((try simp only [List.length_map, List.length_append, List.length_cons, List.length_nil]); omega)) (h2 := by ((try simp only [List.length_map, List.length_append, List.length_cons, List.length_nil]); omega)) (hy := by first | exact strs_snoc | exact rfl | rfl)
   first | refine x_app ?_ (by first | exact str1_wide | exact strsl_wide _ | (intro x hx; cases hx)) (hz := by first | exact strs_snoc | exact rfl | rfl) (h1 := by unfold maxLen; ((try simp only [List.length_map, List.length_append, List.length_cons, List.length_nil]); omega)) (h2 := by ((try simp only [List.length_map, List.length_append, List.length_cons, List.length_nil]); omega)) | refine x_appN ?_ (by first | exact str1_wide | exact strsl_wide _ | (intro x hx; cases hx)) (h1 := by unfold maxLen; ((try simp only [List.length_map, List.length_append, List.length_cons, List.length_nil]); omega)) (h2 := by ((try simp only [List.length_map, List.length_append, List.length_cons, List.length_nil]); omega))
   first | refine x_inc ?_ (h := by ((try simp only [List.length_map, List.length_append, List.length_cons, List.length_nil]); omega)) | refine x_add ?_ (h := by first | exact IntWalk.i64_in _ (by ((try simp only [List.length_map, List.length_append, List.length_cons, List.length_nil]); omega)) | rfl) | refine x_bin rfl rfl ?_
   first | refine x_inc ?_ (h := by ((try simp only [List.length_map, List.length_append, List.length_cons, List.length_nil]); omega)) | refine x_add ?_ (h := by first | exact IntWalk.i64_in _ (by ((try simp only [List.length_map, List.length_append, List.length_cons, List.length_nil]); omega)) | rfl) | refine x_bin rfl rfl ?_
   refine x_rnd (t.1 + 1, t.1 + 1, t.2.2 ++ [s.extract t.2.1 t.1]) (hi.hit (by rw [hb, hbc])) (by (try dsimp only); omega) rfl (x_ent (by first | rfl | (simp only [Tr.get]; simp; done)) (x_ent (by first | rfl | (simp only [Tr.get]; simp; done)) (x_ent (by first | rfl | (simp only [Tr.get]; simp; done)) trivial))) rfl
  case' n2 =>
   have hbc : ¬ b = c := by rintro rfl; exact hc2 rfl
   first | refine x_inc ?_ (h := by ((try simp only [List.length_map, List.length_append, List.length_cons, List.length_nil]); omega)) | refine x_add ?_ (h := by first | exact IntWalk.i64_in _ (by ((try simp only [List.length_map, List.length_append, List.length_cons, List.length_nil]); omega)) | rfl) | refine x_bin rfl rfl ?_
   refine x_rnd (t.1 + 1, t.2.1, t.2.2) (hi.miss hb hbc) (by (try dsimp only); omega) rfl (x_ent (by first | rfl | (simp only [Tr.get]; simp; done)) (x_ent (by first | rfl | (simp only [Tr.get]; simp; done)) (x_ent (by first | rfl | (simp only [Tr.get]; simp; done)) trivial))) rfl
 case' n1 =>
  have he : t.1 = s.size := by omega
  rw [he] at hi
  first | refine x_bnd ?_ | refine x_bndI ?_
  refine x_str ?_ (h1 := by ((try simp only [List.length_map, List.length_append, List.length_cons, List.length_nil]); omega)) (h2 := by ((try simp only [List.length_map, List.length_append, List.length_cons, List.length_nil]); omega)) (hy := by first | exact strs_snoc | exact rfl | rfl)
  first | refine x_app ?_ (by first | exact str1_wide | exact strsl_wide _ | (intro x hx; cases hx)) (hz := by first | exact strs_snoc | exact rfl | rfl) (h1 := by unfold maxLen; ((try simp only [List.length_map, List.length_append, List.length_cons, List.length_nil]); omega)) (h2 := by ((try simp only [List.length_map, List.length_append, List.length_cons, List.length_nil]); omega)) | refine x_appN ?_ (by first | exact str1_wide | exact strsl_wide _ | (intro x hx; cases hx)) (h1 := by unfold maxLen; ((try simp only [List.length_map, List.length_append, List.length_cons, List.length_nil]); omega)) (h2 := by ((try simp only [List.length_map, List.length_append, List.length_cons, List.length_nil]); omega))
 all_goals (refine x_ret ?_; simp only [fitsL, fits, C.asD, and_true] <;> (rw [hi.done]))
end Go.Vm
end
section
namespace Go.Vm
open Go.RowKit Go.Proofs
set_option linter.unusedVariables false
set_option linter.unusedSimpArgs false
set_option maxRecDepth 10000

open Go.Proofs.YtmmffeldlhofiaaGreatDoor Punnet.Name Punnet.Num

set_option maxHeartbeats 1000000 in
theorem fieldRead_any (s : ByteArray) (hs : s.size ≤ 1000000) : Contract Tryz.prog 115 [.sc (.string (s))] [.d (rD ((placeOf s).getD noRef)), .d (.sc (.int .i64 ((if (placeOf s).isSome = true then 0 else 4))))] := by
 refine T.fn [] Tryz.func115 ?_
 refine x_call T.en_122 (split1_any 46 s hs) ?_
 first | refine x_ix (by first | exact wd_ix (i := 0) rfl (by first | exact splitW_pos | omega) | exact wd_ix (i := 1) rfl (by first | exact splitW_pos | omega) | exact wd_ix (i := 2) rfl (by first | exact splitW_pos | omega) | exact wd_ix (i := 3) rfl (by first | exact splitW_pos | omega) | exact wd_ix (i := 4) rfl (by first | exact splitW_pos | omega) | exact wd_ix (i := 5) rfl (by first | exact splitW_pos | omega)) ?_ | refine x_ixI (by first | exact wd_ix (i := 0) rfl (by first | exact splitW_pos | omega) | exact wd_ix (i := 1) rfl (by first | exact splitW_pos | omega) | exact wd_ix (i := 2) rfl (by first | exact splitW_pos | omega) | exact wd_ix (i := 3) rfl (by first | exact splitW_pos | omega) | exact wd_ix (i := 4) rfl (by first | exact splitW_pos | omega) | exact wd_ix (i := 5) rfl (by first | exact splitW_pos | omega)) ?_
 refine br (fun hc1 => ?y1) (fun hc1 => ?n1)
 case' y1 =>
  have hsc : wd (splitW 46 s) 0 = ⟨#[104, 101, 97, 100]⟩ := hc1
  refine x_len ?_
  refine br (fun hc2 => ?y2) (fun hc2 => ?n2)
  case' y2 =>
   have hl2 : (splitW 46 s).length = 2 := by omega
   have hcd : candR (splitW 46 s) = ⟨0, noB, wd (splitW 46 s) 1⟩ := by unfold candR; simp_all
   first | refine x_ix (by first | exact wd_ix (i := 0) rfl (by first | exact splitW_pos | omega) | exact wd_ix (i := 1) rfl (by first | exact splitW_pos | omega) | exact wd_ix (i := 2) rfl (by first | exact splitW_pos | omega) | exact wd_ix (i := 3) rfl (by first | exact splitW_pos | omega) | exact wd_ix (i := 4) rfl (by first | exact splitW_pos | omega) | exact wd_ix (i := 5) rfl (by first | exact splitW_pos | omega)) ?_ | refine x_ixI (by first | exact wd_ix (i := 0) rfl (by first | exact splitW_pos | omega) | exact wd_ix (i := 1) rfl (by first | exact splitW_pos | omega) | exact wd_ix (i := 2) rfl (by first | exact splitW_pos | omega) | exact wd_ix (i := 3) rfl (by first | exact splitW_pos | omega) | exact wd_ix (i := 4) rfl (by first | exact splitW_pos | omega) | exact wd_ix (i := 5) rfl (by first | exact splitW_pos | omega)) ?_
   refine x_call T.en_108 (by first | exact place_any ⟨0, noB, wd (splitW 46 s) 1⟩ | exact place_any ⟨0, wd (splitW 46 s) 1, wd (splitW 46 s) 2⟩ | exact place_any ⟨0, noB, noB⟩ | exact place_any ⟨1, noB, wd (splitW 46 s) 1⟩ | exact place_any ⟨1, wd (splitW 46 s) 1, wd (splitW 46 s) 2⟩ | exact place_any ⟨1, noB, noB⟩) ?_
   refine br (fun hg3 => ?y3) (fun hg3 => ?n3)
   case' y3 =>
    have hN := place_no2 (s := s) (by rw [hcd]; exact hg3)
    refine brT ?_
   case' n3 =>
    have hpb : placeB (candR (splitW 46 s)) = true := by rw [hcd]; exact hg3
    refine x_call T.en_92 (by first | exact fieldPrint_any ⟨0, noB, wd (splitW 46 s) 1⟩ | exact fieldPrint_any ⟨0, wd (splitW 46 s) 1, wd (splitW 46 s) 2⟩ | exact fieldPrint_any ⟨0, noB, noB⟩ | exact fieldPrint_any ⟨1, noB, wd (splitW 46 s) 1⟩ | exact fieldPrint_any ⟨1, wd (splitW 46 s) 1, wd (splitW 46 s) 2⟩ | exact fieldPrint_any ⟨1, noB, noB⟩) ?_
    refine br (fun hc5 => ?y5) (fun hc5 => ?n5)
    case' y5 =>
     have hN := place_no3 (s := s) (by rw [hcd]; intro e; apply hc5; rw [if_pos (by rw [← hcd]; exact hpb)]; exact e)
    case' n5 =>
     have hY := placeOf_some hpb (s := s) (by rw [hcd]; have h9 := hc5; rw [if_pos (by rw [← hcd]; exact hpb)] at h9; exact h9)
     rw [hcd] at hY
  case' n2 =>
   refine br (fun hc6 => ?y6) (fun hc6 => ?n6)
   case' y6 =>
    have hl3 : (splitW 46 s).length = 3 := by omega
    have hcd : candR (splitW 46 s) = ⟨0, wd (splitW 46 s) 1, wd (splitW 46 s) 2⟩ := by unfold candR; simp_all
    refine And.intro ⟨T.mixed, by decide +kernel⟩ ?_
    first | refine x_ix (by first | exact wd_ix (i := 0) rfl (by first | exact splitW_pos | omega) | exact wd_ix (i := 1) rfl (by first | exact splitW_pos | omega) | exact wd_ix (i := 2) rfl (by first | exact splitW_pos | omega) | exact wd_ix (i := 3) rfl (by first | exact splitW_pos | omega) | exact wd_ix (i := 4) rfl (by first | exact splitW_pos | omega) | exact wd_ix (i := 5) rfl (by first | exact splitW_pos | omega)) ?_ | refine x_ixI (by first | exact wd_ix (i := 0) rfl (by first | exact splitW_pos | omega) | exact wd_ix (i := 1) rfl (by first | exact splitW_pos | omega) | exact wd_ix (i := 2) rfl (by first | exact splitW_pos | omega) | exact wd_ix (i := 3) rfl (by first | exact splitW_pos | omega) | exact wd_ix (i := 4) rfl (by first | exact splitW_pos | omega) | exact wd_ix (i := 5) rfl (by first | exact splitW_pos | omega)) ?_
    first | refine x_ix (by first | exact wd_ix (i := 0) rfl (by first | exact splitW_pos | omega) | exact wd_ix (i := 1) rfl (by first | exact splitW_pos | omega) | exact wd_ix (i := 2) rfl (by first | exact splitW_pos | omega) | exact wd_ix (i := 3) rfl (by first | exact splitW_pos | omega) | exact wd_ix (i := 4) rfl (by first | exact splitW_pos | omega) | exact wd_ix (i := 5) rfl (by first | exact splitW_pos | omega)) ?_ | refine x_ixI (by first | exact wd_ix (i := 0) rfl (by first | exact splitW_pos | omega) | exact wd_ix (i := 1) rfl (by first | exact splitW_pos | omega) | exact wd_ix (i := 2) rfl (by first | exact splitW_pos | omega) | exact wd_ix (i := 3) rfl (by first | exact splitW_pos | omega) | exact wd_ix (i := 4) rfl (by first | exact splitW_pos | omega) | exact wd_ix (i := 5) rfl (by first | exact splitW_pos | omega)) ?_
    refine x_call T.en_108 (by first | exact place_any ⟨0, noB, wd (splitW 46 s) 1⟩ | exact place_any ⟨0, wd (splitW 46 s) 1, wd (splitW 46 s) 2⟩ | exact place_any ⟨0, noB, noB⟩ | exact place_any ⟨1, noB, wd (splitW 46 s) 1⟩ | exact place_any ⟨1, wd (splitW 46 s) 1, wd (splitW 46 s) 2⟩ | exact place_any ⟨1, noB, noB⟩) ?_
    refine br (fun hg7 => ?y7) (fun hg7 => ?n7)
    case' y7 =>
     have hN := place_no2 (s := s) (by rw [hcd]; exact hg7)
     refine brT ?_
    case' n7 =>
     have hpb : placeB (candR (splitW 46 s)) = true := by rw [hcd]; exact hg7
     refine x_call T.en_92 (by first | exact fieldPrint_any ⟨0, noB, wd (splitW 46 s) 1⟩ | exact fieldPrint_any ⟨0, wd (splitW 46 s) 1, wd (splitW 46 s) 2⟩ | exact fieldPrint_any ⟨0, noB, noB⟩ | exact fieldPrint_any ⟨1, noB, wd (splitW 46 s) 1⟩ | exact fieldPrint_any ⟨1, wd (splitW 46 s) 1, wd (splitW 46 s) 2⟩ | exact fieldPrint_any ⟨1, noB, noB⟩) ?_
     refine br (fun hc9 => ?y9) (fun hc9 => ?n9)
     case' y9 =>
      have hN := place_no3 (s := s) (by rw [hcd]; intro e; apply hc9; rw [if_pos (by rw [← hcd]; exact hpb)]; exact e)
     case' n9 =>
      have hY := placeOf_some hpb (s := s) (by rw [hcd]; have h9 := hc9; rw [if_pos (by rw [← hcd]; exact hpb)] at h9; exact h9)
      rw [hcd] at hY
   case' n6 =>
    have hl2 : ¬ (splitW 46 s).length = 2 := by omega
    have hl3 : ¬ (splitW 46 s).length = 3 := by omega
    have hcd : candR (splitW 46 s) = ⟨0, noB, noB⟩ := by unfold candR; simp_all
    refine x_call T.en_108 (by first | exact place_any ⟨0, noB, wd (splitW 46 s) 1⟩ | exact place_any ⟨0, wd (splitW 46 s) 1, wd (splitW 46 s) 2⟩ | exact place_any ⟨0, noB, noB⟩ | exact place_any ⟨1, noB, wd (splitW 46 s) 1⟩ | exact place_any ⟨1, wd (splitW 46 s) 1, wd (splitW 46 s) 2⟩ | exact place_any ⟨1, noB, noB⟩) ?_
    refine br (fun hg10 => ?y10) (fun hg10 => ?n10)
    case' y10 =>
     have hN := place_no2 (s := s) (by rw [hcd]; exact hg10)
     refine brT ?_
    case' n10 =>
     have hpb : placeB (candR (splitW 46 s)) = true := by rw [hcd]; exact hg10
     refine x_call T.en_92 (by first | exact fieldPrint_any ⟨0, noB, wd (splitW 46 s) 1⟩ | exact fieldPrint_any ⟨0, wd (splitW 46 s) 1, wd (splitW 46 s) 2⟩ | exact fieldPrint_any ⟨0, noB, noB⟩ | exact fieldPrint_any ⟨1, noB, wd (splitW 46 s) 1⟩ | exact fieldPrint_any ⟨1, wd (splitW 46 s) 1, wd (splitW 46 s) 2⟩ | exact fieldPrint_any ⟨1, noB, noB⟩) ?_
     refine br (fun hc12 => ?y12) (fun hc12 => ?n12)
     case' y12 =>
      have hN := place_no3 (s := s) (by rw [hcd]; intro e; apply hc12; rw [if_pos (by rw [← hcd]; exact hpb)]; exact e)
     case' n12 =>
      have hY := placeOf_some hpb (s := s) (by rw [hcd]; have h9 := hc12; rw [if_pos (by rw [← hcd]; exact hpb)] at h9; exact h9)
      rw [hcd] at hY
 case' n1 =>
  refine br (fun hc13 => ?y13) (fun hc13 => ?n13)
  case' y13 =>
   have hsc : wd (splitW 46 s) 0 = ⟨#[108, 105, 110, 101]⟩ := hc13
   refine x_len ?_
   refine br (fun hc14 => ?y14) (fun hc14 => ?n14)
   case' y14 =>
    have hl2 : (splitW 46 s).length = 2 := by omega
    have hcd : candR (splitW 46 s) = ⟨1, noB, wd (splitW 46 s) 1⟩ := by unfold candR; simp_all
    first | refine x_ix (by first | exact wd_ix (i := 0) rfl (by first | exact splitW_pos | omega) | exact wd_ix (i := 1) rfl (by first | exact splitW_pos | omega) | exact wd_ix (i := 2) rfl (by first | exact splitW_pos | omega) | exact wd_ix (i := 3) rfl (by first | exact splitW_pos | omega) | exact wd_ix (i := 4) rfl (by first | exact splitW_pos | omega) | exact wd_ix (i := 5) rfl (by first | exact splitW_pos | omega)) ?_ | refine x_ixI (by first | exact wd_ix (i := 0) rfl (by first | exact splitW_pos | omega) | exact wd_ix (i := 1) rfl (by first | exact splitW_pos | omega) | exact wd_ix (i := 2) rfl (by first | exact splitW_pos | omega) | exact wd_ix (i := 3) rfl (by first | exact splitW_pos | omega) | exact wd_ix (i := 4) rfl (by first | exact splitW_pos | omega) | exact wd_ix (i := 5) rfl (by first | exact splitW_pos | omega)) ?_
    refine x_call T.en_108 (by first | exact place_any ⟨0, noB, wd (splitW 46 s) 1⟩ | exact place_any ⟨0, wd (splitW 46 s) 1, wd (splitW 46 s) 2⟩ | exact place_any ⟨0, noB, noB⟩ | exact place_any ⟨1, noB, wd (splitW 46 s) 1⟩ | exact place_any ⟨1, wd (splitW 46 s) 1, wd (splitW 46 s) 2⟩ | exact place_any ⟨1, noB, noB⟩) ?_
    refine br (fun hg15 => ?y15) (fun hg15 => ?n15)
    case' y15 =>
     have hN := place_no2 (s := s) (by rw [hcd]; exact hg15)
     refine brT ?_
    case' n15 =>
     have hpb : placeB (candR (splitW 46 s)) = true := by rw [hcd]; exact hg15
     refine x_call T.en_92 (by first | exact fieldPrint_any ⟨0, noB, wd (splitW 46 s) 1⟩ | exact fieldPrint_any ⟨0, wd (splitW 46 s) 1, wd (splitW 46 s) 2⟩ | exact fieldPrint_any ⟨0, noB, noB⟩ | exact fieldPrint_any ⟨1, noB, wd (splitW 46 s) 1⟩ | exact fieldPrint_any ⟨1, wd (splitW 46 s) 1, wd (splitW 46 s) 2⟩ | exact fieldPrint_any ⟨1, noB, noB⟩) ?_
     refine br (fun hc17 => ?y17) (fun hc17 => ?n17)
     case' y17 =>
      have hN := place_no3 (s := s) (by rw [hcd]; intro e; apply hc17; rw [if_pos (by rw [← hcd]; exact hpb)]; exact e)
     case' n17 =>
      have hY := placeOf_some hpb (s := s) (by rw [hcd]; have h9 := hc17; rw [if_pos (by rw [← hcd]; exact hpb)] at h9; exact h9)
      rw [hcd] at hY
   case' n14 =>
    refine br (fun hc18 => ?y18) (fun hc18 => ?n18)
    case' y18 =>
     have hl3 : (splitW 46 s).length = 3 := by omega
     have hcd : candR (splitW 46 s) = ⟨1, wd (splitW 46 s) 1, wd (splitW 46 s) 2⟩ := by unfold candR; simp_all
     refine And.intro ⟨T.mixed, by decide +kernel⟩ ?_
     first | refine x_ix (by first | exact wd_ix (i := 0) rfl (by first | exact splitW_pos | omega) | exact wd_ix (i := 1) rfl (by first | exact splitW_pos | omega) | exact wd_ix (i := 2) rfl (by first | exact splitW_pos | omega) | exact wd_ix (i := 3) rfl (by first | exact splitW_pos | omega) | exact wd_ix (i := 4) rfl (by first | exact splitW_pos | omega) | exact wd_ix (i := 5) rfl (by first | exact splitW_pos | omega)) ?_ | refine x_ixI (by first | exact wd_ix (i := 0) rfl (by first | exact splitW_pos | omega) | exact wd_ix (i := 1) rfl (by first | exact splitW_pos | omega) | exact wd_ix (i := 2) rfl (by first | exact splitW_pos | omega) | exact wd_ix (i := 3) rfl (by first | exact splitW_pos | omega) | exact wd_ix (i := 4) rfl (by first | exact splitW_pos | omega) | exact wd_ix (i := 5) rfl (by first | exact splitW_pos | omega)) ?_
     first | refine x_ix (by first | exact wd_ix (i := 0) rfl (by first | exact splitW_pos | omega) | exact wd_ix (i := 1) rfl (by first | exact splitW_pos | omega) | exact wd_ix (i := 2) rfl (by first | exact splitW_pos | omega) | exact wd_ix (i := 3) rfl (by first | exact splitW_pos | omega) | exact wd_ix (i := 4) rfl (by first | exact splitW_pos | omega) | exact wd_ix (i := 5) rfl (by first | exact splitW_pos | omega)) ?_ | refine x_ixI (by first | exact wd_ix (i := 0) rfl (by first | exact splitW_pos | omega) | exact wd_ix (i := 1) rfl (by first | exact splitW_pos | omega) | exact wd_ix (i := 2) rfl (by first | exact splitW_pos | omega) | exact wd_ix (i := 3) rfl (by first | exact splitW_pos | omega) | exact wd_ix (i := 4) rfl (by first | exact splitW_pos | omega) | exact wd_ix (i := 5) rfl (by first | exact splitW_pos | omega)) ?_
     refine x_call T.en_108 (by first | exact place_any ⟨0, noB, wd (splitW 46 s) 1⟩ | exact place_any ⟨0, wd (splitW 46 s) 1, wd (splitW 46 s) 2⟩ | exact place_any ⟨0, noB, noB⟩ | exact place_any ⟨1, noB, wd (splitW 46 s) 1⟩ | exact place_any ⟨1, wd (splitW 46 s) 1, wd (splitW 46 s) 2⟩ | exact place_any ⟨1, noB, noB⟩) ?_
     refine br (fun hg19 => ?y19) (fun hg19 => ?n19)
     case' y19 =>
      have hN := place_no2 (s := s) (by rw [hcd]; exact hg19)
      refine brT ?_
     case' n19 =>
      have hpb : placeB (candR (splitW 46 s)) = true := by rw [hcd]; exact hg19
      refine x_call T.en_92 (by first | exact fieldPrint_any ⟨0, noB, wd (splitW 46 s) 1⟩ | exact fieldPrint_any ⟨0, wd (splitW 46 s) 1, wd (splitW 46 s) 2⟩ | exact fieldPrint_any ⟨0, noB, noB⟩ | exact fieldPrint_any ⟨1, noB, wd (splitW 46 s) 1⟩ | exact fieldPrint_any ⟨1, wd (splitW 46 s) 1, wd (splitW 46 s) 2⟩ | exact fieldPrint_any ⟨1, noB, noB⟩) ?_
      refine br (fun hc21 => ?y21) (fun hc21 => ?n21)
      case' y21 =>
       have hN := place_no3 (s := s) (by rw [hcd]; intro e; apply hc21; rw [if_pos (by rw [← hcd]; exact hpb)]; exact e)
      case' n21 =>
       have hY := placeOf_some hpb (s := s) (by rw [hcd]; have h9 := hc21; rw [if_pos (by rw [← hcd]; exact hpb)] at h9; exact h9)
       rw [hcd] at hY
    case' n18 =>
     have hl2 : ¬ (splitW 46 s).length = 2 := by omega
     have hl3 : ¬ (splitW 46 s).length = 3 := by omega
     have hcd : candR (splitW 46 s) = ⟨1, noB, noB⟩ := by unfold candR; simp_all
     refine x_call T.en_108 (by first | exact place_any ⟨0, noB, wd (splitW 46 s) 1⟩ | exact place_any ⟨0, wd (splitW 46 s) 1, wd (splitW 46 s) 2⟩ | exact place_any ⟨0, noB, noB⟩ | exact place_any ⟨1, noB, wd (splitW 46 s) 1⟩ | exact place_any ⟨1, wd (splitW 46 s) 1, wd (splitW 46 s) 2⟩ | exact place_any ⟨1, noB, noB⟩) ?_
     refine br (fun hg22 => ?y22) (fun hg22 => ?n22)
     case' y22 =>
      have hN := place_no2 (s := s) (by rw [hcd]; exact hg22)
      refine brT ?_
     case' n22 =>
      have hpb : placeB (candR (splitW 46 s)) = true := by rw [hcd]; exact hg22
      refine x_call T.en_92 (by first | exact fieldPrint_any ⟨0, noB, wd (splitW 46 s) 1⟩ | exact fieldPrint_any ⟨0, wd (splitW 46 s) 1, wd (splitW 46 s) 2⟩ | exact fieldPrint_any ⟨0, noB, noB⟩ | exact fieldPrint_any ⟨1, noB, wd (splitW 46 s) 1⟩ | exact fieldPrint_any ⟨1, wd (splitW 46 s) 1, wd (splitW 46 s) 2⟩ | exact fieldPrint_any ⟨1, noB, noB⟩) ?_
      refine br (fun hc24 => ?y24) (fun hc24 => ?n24)
      case' y24 =>
       have hN := place_no3 (s := s) (by rw [hcd]; intro e; apply hc24; rw [if_pos (by rw [← hcd]; exact hpb)]; exact e)
      case' n24 =>
       have hY := placeOf_some hpb (s := s) (by rw [hcd]; have h9 := hc24; rw [if_pos (by rw [← hcd]; exact hpb)] at h9; exact h9)
       rw [hcd] at hY
  case' n13 =>
   have hN := place_no1 (s := s) (by assumption) (by assumption)
 all_goals (refine x_ret ?_; simp only [fitsL, fits, C.asD, and_true] <;> (first | (rw [hN]; exact ⟨rfl, rfl⟩) | (rw [hY]; exact ⟨rfl, rfl⟩)))
end Go.Vm
end
section
namespace Go.Vm
open Go.RowKit Go.Proofs
set_option linter.unusedVariables false
set_option linter.unusedSimpArgs false
set_option maxRecDepth 10000

open Go.Proofs.YtmmffeldlhofiaaGreatDoor Punnet.Name Punnet.Num

theorem pairT_sizes {l : List (ByteArray × ByteArray)} (he : ∀ p ∈ l, p.1.size ≤ 12 ∧ p.2.size ≤ 12) : ∀ w ∈ l.map pairT, w.size ≤ 30 := by
  intro w hw
  obtain ⟨p, hp, rfl⟩ := List.mem_map.1 hw
  have := he p hp
  unfold pairT
  rw [← ba_len, mkB_data, List.length_append, List.length_cons, ba_len, ba_len]
  omega
theorem pairT_cat (p : ByteArray × ByteArray) : p.1 ++ ⟨#[62]⟩ ++ p.2 = pairT p := ba_ext (by unfold pairT; rw [mkB_data, ba_app, ba_app]; simp)
def pws (l : List (ByteArray × ByteArray)) (k : Nat) : List ByteArray := (l.take k).map pairT
theorem pws_len {l : List (ByteArray × ByteArray)} {k : Nat} (h : k ≤ l.length) : (pws l k).length = k := by unfold pws; rw [List.length_map, List.length_take]; omega
theorem pairs_take {l : List (ByteArray × ByteArray)} {k : Nat} {p : ByteArray × ByteArray} (hp : l[k]? = some p) : (pws l (k + 1)).map strD = (pws l k).map strD ++ [strD (p.1 ++ ⟨#[62]⟩ ++ p.2)] := by
  unfold pws
  rw [List.take_add_one, hp, pairT_cat]; simp
theorem fieldW_len (f : FieldD) : (fieldW f).length ≤ 4 := by unfold fieldW; split; simp; split; simp; split <;> simp
theorem strs_app {a : ByteArray} {l : List ByteArray} : [strD a] ++ l.map strD = (a :: l).map strD := rfl
theorem lens_kinds {x : LensD} (h : rightL x = true) : ¬ (x.kind = 2 ∨ x.kind = 3) → placeB x.at_ = true := by
  intro k
  cases rl_of h <;> first | assumption | (exact absurd (.inl rfl) k) | (exact absurd (.inr rfl) k)
theorem joinC_size (c : UInt8) {n : Nat} : ∀ {l : List (List UInt8)}, (∀ w ∈ l, w.length ≤ n) → (joinC c l).length ≤ l.length * (n + 1)
  | [], _ => Nat.zero_le _
  | [w], h => by have := h w (List.mem_cons_self ..); simp only [joinC, List.length_cons, List.length_nil]; omega
  | w :: v :: r, h => by
    have h1 := h w (List.mem_cons_self ..)
    have ih := joinC_size c (l := v :: r) fun u hu => h u (List.mem_cons_of_mem _ hu)
    rw [joinC, List.length_append, List.length_cons, List.length_cons, Nat.add_mul]
    omega
theorem joinW_size (c : UInt8) {n : Nat} {l : List ByteArray} (hl : l.length ≤ 1000) (h : ∀ w ∈ l, w.size ≤ n) (hn : n ≤ 2000 := by decide) : (joinW c l).size ≤ 100000000 := by
  rw [← ba_len, joinW_data]
  have := joinC_size c (n := n) (l := l.map (·.data.toList)) (fun w hw => by obtain ⟨a, ha, rfl⟩ := List.mem_map.1 hw; exact h a ha)
  rw [List.length_map] at this
  have h2 : l.length * (n + 1) ≤ 1000 * (2000 + 1) := Nat.mul_le_mul hl (by omega)
  omega

set_option maxHeartbeats 1000000 in
theorem fieldWords_any (f : FieldD) (h : rightF f = true) : Contract Tryz.prog 73 [fD f] [.d (.row ((fieldW f).map strD))] := by
 refine T.fn [] Tryz.func73 ?_
 obtain ⟨hp, hdz, hcz, hce, hki, hwo⟩ := rightF_size h
 refine x_call T.en_92 (fieldPrint_any f.at_) ?_
 refine br (fun hc1 => ?y1) (fun hc1 => ?n1)
 case' y1 =>
  refine x_call T.en_91 (numPrint_any f.worth hwo) ?_
 case' n1 =>
  refine br (fun hc2 => ?y2) (fun hc2 => ?n2)
  case' y2 =>
   refine x_call T.en_93 (skQuote_any f.deft hdz) ?_
  case' n2 =>
   refine br (fun hc3 => ?y3) (fun hc3 => ?n3)
   case' y3 =>
    refine And.intro ⟨T.mixed, by decide +kernel⟩ ?_
    refine x_call T.en_50 (join_any 44 f.cases (by omega) (joinW_size 44 (n := 20) (by omega) (fun w hw => by have := hce w hw; omega))) ?_
 all_goals (refine x_ret ?_; simp only [fitsL, fits, C.asD, and_true] <;> (rw [if_pos hp]; unfold fieldW; (repeat (first | rw [if_pos (by assumption)] | rw [if_neg (by assumption)])); first | rfl))

set_option maxHeartbeats 1000000 in
theorem skPairs_any (l : List (ByteArray × ByteArray)) (hl : l.length ≤ 6) (he : ∀ p ∈ l, p.1.size ≤ 12 ∧ p.2.size ≤ 12) : Contract Tryz.prog 94 [.row (l.map pairD)] [.d (.sc (.string (pairsT l)))] := by
 refine T.fn [] Tryz.func94 ?_
 refine x_len ?_
 refine xnil 3 500003 9 rfl (by decide) (by decide +kernel) ?_
 refine xloopR (fb := []) T.ok (Nat.le_of_ble_eq_true rfl) [6, 7] (fun (k : Nat) => [(8, .c (.d (.sc (.int .i64 (k : Nat))))), (3, .c (.own 500003 9 ((pws l k).map strD)))]) (fun k => k ≤ l.length ∧ True) (fun k => l.length - k) 0 ⟨Nat.zero_le _, trivial⟩ (x_ent (by first | rfl | (simp only [Tr.get]; simp; done)) (x_ent (by first | rfl | (simp only [Tr.get]; simp; done)) trivial)) ?_
 rintro k ⟨hk, hi⟩
 refine br (fun hc1 => ?y1) (fun hc1 => ?n1)
 case' y1 =>
  obtain ⟨p, hp⟩ := elem_at hc1
  have hkl := lt_len hp
  have hps := he p (List.mem_of_getElem? hp)
  have hpw := pws_len hk
  first | refine x_ix (by exact mapAt hp) ?_ | refine x_ixI (by exact mapAt hp) ?_
  refine x_cat ?_ (h := by ((try simp only [ByteArray.size_append, lit_size, List.size_toArray, List.length_map, List.length_append, List.length_cons, List.length_nil, List.length_take]); omega))
  refine x_cat ?_ (h := by ((try simp only [ByteArray.size_append, lit_size, List.size_toArray, List.length_map, List.length_append, List.length_cons, List.length_nil, List.length_take]); omega))
  first | refine x_app ?_ (by first | exact str1_wide | exact strsl_wide _ | (intro x hx; cases hx)) (hz := by first | exact pairT_snoc | exact pairT_one | exact rfl | rfl) (h1 := by unfold maxLen; ((try simp only [ByteArray.size_append, lit_size, List.size_toArray, List.length_map, List.length_append, List.length_cons, List.length_nil, List.length_take]); omega)) (h2 := by ((try simp only [ByteArray.size_append, lit_size, List.size_toArray, List.length_map, List.length_append, List.length_cons, List.length_nil, List.length_take]); omega)) | refine x_appN ?_ (by first | exact str1_wide | exact strsl_wide _ | (intro x hx; cases hx)) (h1 := by unfold maxLen; ((try simp only [ByteArray.size_append, lit_size, List.size_toArray, List.length_map, List.length_append, List.length_cons, List.length_nil, List.length_take]); omega)) (h2 := by ((try simp only [ByteArray.size_append, lit_size, List.size_toArray, List.length_map, List.length_append, List.length_cons, List.length_nil, List.length_take]); omega))
  first | refine x_inc ?_ (h := by ((try simp only [ByteArray.size_append, lit_size, List.size_toArray, List.length_map, List.length_append, List.length_cons, List.length_nil, List.length_take]); omega)) | refine x_add ?_ (h := by first | exact IntWalk.i64_in _ (by ((try simp only [ByteArray.size_append, lit_size, List.size_toArray, List.length_map, List.length_append, List.length_cons, List.length_nil, List.length_take]); omega)) | rfl) | refine x_bin rfl rfl ?_
  refine x_rnd (k + 1) ⟨lt_len hp, trivial⟩ (by (try dsimp only); have := lt_len hp; omega) rfl (x_ent (by first | rfl | (simp only [Tr.get]; simp; done)) (x_ent (by simp only [Tr.get]; first | (rw [pairs_take hp]; done) | (rw [pairs_take hp]; rfl)) trivial)) rfl
 case' n1 =>
  have hend : l.take k = l := List.take_of_length_le (past_end hc1)
  refine x_call T.en_50 (join_any 44 (pws l k) (by unfold pws; rw [List.length_map, hend]; omega) (joinW_size 44 (n := 30) (by unfold pws; rw [List.length_map, hend]; omega) (pairT_sizes fun p hp => he p (List.mem_of_mem_take hp)))) ?_
 all_goals (refine x_ret ?_; simp only [fitsL, fits, C.asD, and_true] <;> (unfold pws; rw [hend]; rfl))

set_option maxHeartbeats 1000000 in
theorem lensWords_any (x : LensD) (h : rightL x = true) : Contract Tryz.prog 49 [lD x] [.d (.row ((lensW x).map strD))] := by
 refine T.fn [] Tryz.func49 ?_
 have z := rightL_size h
 have hkn := rightL_kd h
 have hk2 := lens_kinds h
 have hfw := fieldW_len x.field
 refine x_call T.en_92 (fieldPrint_any x.at_) ?_
 refine br (fun hc1 => ?y1) (fun hc1 => ?n1)
 case' n1 =>
  refine br (fun hc2 => ?y2) (fun hc2 => ?n2)
  case' y2 =>
   refine x_call T.en_73 (fieldWords_any x.field (z.field.1 (by omega))) ?_
   first | refine x_app ?_ (by first | exact str1_wide | exact strsl_wide _ | (intro x hx; cases hx)) (hz := by first | exact strs_app | exact rfl | rfl) (h1 := by unfold maxLen; ((try simp only [List.length_map, List.length_cons, List.length_nil]); omega)) (h2 := by ((try simp only [List.length_map, List.length_cons, List.length_nil]); omega)) | refine x_appN ?_ (by first | exact str1_wide | exact strsl_wide _ | (intro x hx; cases hx)) (h1 := by unfold maxLen; ((try simp only [List.length_map, List.length_cons, List.length_nil]); omega)) (h2 := by ((try simp only [List.length_map, List.length_cons, List.length_nil]); omega))
  case' n2 =>
   refine br (fun hc3 => ?y3) (fun hc3 => ?n3)
   case' y3 =>
    refine x_call T.en_73 (fieldWords_any x.field (z.field.1 (by omega))) ?_
    first | refine x_app ?_ (by first | exact str1_wide | exact strsl_wide _ | (intro x hx; cases hx)) (hz := by first | exact strs_app | exact rfl | rfl) (h1 := by unfold maxLen; ((try simp only [List.length_map, List.length_cons, List.length_nil]); omega)) (h2 := by ((try simp only [List.length_map, List.length_cons, List.length_nil]); omega)) | refine x_appN ?_ (by first | exact str1_wide | exact strsl_wide _ | (intro x hx; cases hx)) (h1 := by unfold maxLen; ((try simp only [List.length_map, List.length_cons, List.length_nil]); omega)) (h2 := by ((try simp only [List.length_map, List.length_cons, List.length_nil]); omega))
   case' n3 =>
    refine br (fun hc4 => ?y4) (fun hc4 => ?n4)
    case' n4 =>
     refine br (fun hc5 => ?y5) (fun hc5 => ?n5)
     case' n5 =>
      refine br (fun hc6 => ?y6) (fun hc6 => ?n6)
      case' y6 =>
       refine And.intro ⟨T.mixed, by decide +kernel⟩ ?_
       refine x_call T.en_91 (numPrint_any x.factor z.factor) ?_
      case' n6 =>
       refine br (fun hc7 => ?y7) (fun hc7 => ?n7)
       case' y7 =>
        refine And.intro ⟨T.mixed, by decide +kernel⟩ ?_
        refine x_call T.en_91 (numPrint_any x.factor z.factor) ?_
       case' n7 =>
        refine br (fun hc8 => ?y8) (fun hc8 => ?n8)
        case' y8 =>
         refine x_call T.en_93 (skQuote_any x.other z.other) ?_
        case' n8 =>
         refine br (fun hc9 => ?y9) (fun hc9 => ?n9)
         case' y9 =>
          refine x_call T.en_93 (skQuote_any x.other z.other) ?_
         case' n9 =>
          refine And.intro ⟨T.mixed, by decide +kernel⟩ ?_
          refine x_call T.en_94 (by first | exact skPairs_any x.forth z.forth.1 z.forth.2 | exact skPairs_any x.back z.back.1 z.back.2) ?_
          refine x_call T.en_94 (by first | exact skPairs_any x.forth z.forth.1 z.forth.2 | exact skPairs_any x.back z.back.1 z.back.2) ?_
 all_goals (refine x_ret ?_; simp only [fitsL, fits, C.asD, and_true] <;> ((try rw [if_pos (hk2 (by omega))]); unfold lensW; (repeat (first | rw [if_pos (by omega)] | rw [if_neg (by omega)])); first | done | rfl))
end Go.Vm
end
section
namespace Go.Vm
open Go.RowKit Go.Proofs
set_option linter.unusedVariables false
set_option linter.unusedSimpArgs false
set_option maxRecDepth 10000
theorem v_23 (x : TagD) : conc (tD x) = some (.agg #[.int .i64 x.r, .int .i64 x.n]) := rfl
theorem rune_23 (r s : TagD) (x y : Operand) (w : World) : (do eqGuard .eql 23 x y (.agg #[.int .i64 r.r, .int .i64 r.n]) (.agg #[.int .i64 s.r, .int .i64 s.n]); binOp .eql 23 (.agg #[.int .i64 r.r, .int .i64 r.n]) (.agg #[.int .i64 s.r, .int .i64 s.n]) : Sem Value).run Tryz.prog w = .ok (.bool (decide (r = s))) w := by
  obtain ⟨a, b⟩ := r
  obtain ⟨a', b'⟩ := s
  simp [go_sem, eq_strs]
  repeat (first | (split <;> simp_all; done) | split)
  all_goals simp_all
theorem xeq_23e {x y : Operand} {K : Value → Prop} (r s : TagD) (hK : K (.bool (decide (r = s)))) : ∃ u v r', (conc (tD r) = some u ∧ conc (tD s) = some v) ∧ (∀ w, (do eqGuard .eql 23 x y u v; binOp .eql 23 u v : Sem Value).run Tryz.prog w = .ok r' w) ∧ plainV r' = true ∧ K r' := x_eqS (v_23 r) (v_23 s) (fun w => rune_23 r s x y w) rfl hK
theorem runn_23 (r s : TagD) (x y : Operand) (w : World) : (do eqGuard .neq 23 x y (.agg #[.int .i64 r.r, .int .i64 r.n]) (.agg #[.int .i64 s.r, .int .i64 s.n]); binOp .neq 23 (.agg #[.int .i64 r.r, .int .i64 r.n]) (.agg #[.int .i64 s.r, .int .i64 s.n]) : Sem Value).run Tryz.prog w = .ok (.bool (!decide (r = s))) w := by
  obtain ⟨a, b⟩ := r
  obtain ⟨a', b'⟩ := s
  simp [go_sem, eq_strs]
  repeat (first | (split <;> simp_all; done) | split)
  all_goals simp_all
theorem xeq_23n {x y : Operand} {K : Value → Prop} (r s : TagD) (hK : K (.bool (!decide (r = s)))) : ∃ u v r', (conc (tD r) = some u ∧ conc (tD s) = some v) ∧ (∀ w, (do eqGuard .neq 23 x y u v; binOp .neq 23 u v : Sem Value).run Tryz.prog w = .ok r' w) ∧ plainV r' = true ∧ K r' := x_eqS (v_23 r) (v_23 s) (fun w => runn_23 r s x y w) rfl hK
end Go.Vm
end
section
namespace Go.Vm
open Go.RowKit Go.Proofs
set_option linter.unusedVariables false
set_option linter.unusedSimpArgs false
set_option maxRecDepth 10000

set_option maxHeartbeats 1000000 in
theorem tag_any (t : TagD) : Contract Tryz.prog 90 [tD t] [.d (.sc (.bool (tagB t)))] := by
 refine T.fn [] Tryz.func90 ?_
 refine br (fun hg1 => ?y1) (fun hg1 => ?n1)
 case' y1 =>
  refine br (fun hg2 => ?y2) (fun hg2 => ?n2)
  case' y2 =>
   refine br (fun hg3 => ?y3) (fun hg3 => ?n3)
  case' n2 =>
   refine brF ?_
 case' n1 =>
  refine brF ?_
  refine brF ?_
 all_goals (refine x_ret ?_; simp only [fitsL, fits, C.asD, and_true] <;> (refine scb ?_; unfold tagB; first | (simp_all; done) | (simp_all; omega) | (rw [Bool.eq_iff_iff]; simp_all <;> omega)))

set_option maxHeartbeats 1000000 in
theorem root_any  : Contract Tryz.prog 89 [] [.d (tD noTag)] := by
 refine T.fn [] Tryz.func89 ?_
 all_goals (refine x_ret ?_; simp only [fitsL, fits, C.asD, and_true] <;> (rfl))
end Go.Vm
end
section
namespace Go.Vm
open Go.RowKit Go.Proofs
set_option linter.unusedVariables false
set_option linter.unusedSimpArgs false
set_option maxRecDepth 10000

set_option maxHeartbeats 1000000 in
theorem edge_any (e : EdgeD) (he : okX e.lens) : Contract Tryz.prog 47 [eD e] [.d (.sc (.bool (edgeB e)))] := by
 refine T.fn [] Tryz.func47 ?_
 refine x_call T.en_90 (tag_any _) ?_
 refine br (fun hc1 => ?y1) (fun hc1 => ?n1)
 case' n1 =>
  refine And.intro ⟨T.mixed, by decide +kernel⟩ ?_
  refine x_call T.en_89 (root_any) ?_
  first | refine xeq_23n _ _ ?_ | refine xeq_23n _ noTag ?_ | refine xeq_23n noTag _ ?_
  refine br (fun hg2 => ?y2) (fun hg2 => ?n2)
  case' y2 =>
   refine x_call T.en_90 (tag_any _) ?_
   refine br (fun hg3 => ?y3) (fun hg3 => ?n3)
   case' y3 =>
    refine brT ?_
   case' n3 =>
    first | refine xeq_23e _ _ ?_ | refine xeq_23e _ noTag ?_ | refine xeq_23e noTag _ ?_
    refine br (fun hc5 => ?y5) (fun hc5 => ?n5)
    case' n5 =>
     refine br (fun hg6 => ?y6) (fun hg6 => ?n6)
     case' y6 =>
      refine br (fun hg7 => ?y7) (fun hg7 => ?n7)
      case' y7 =>
       refine x_call T.en_58 (lensRight_any _ he) ?_
     case' n6 =>
      refine brF ?_
  case' n2 =>
   refine brF ?_
   refine br (fun hg10 => ?y10) (fun hg10 => ?n10)
   case' y10 =>
    refine br (fun hg11 => ?y11) (fun hg11 => ?n11)
    case' y11 =>
     refine x_call T.en_58 (lensRight_any _ he) ?_
   case' n10 =>
    refine brF ?_
 all_goals (refine x_ret ?_; simp only [fitsL, fits, C.asD, and_true] <;> (refine scb ?_; unfold edgeB; first | (simp_all; done) | (rw [Bool.eq_iff_iff]; simp_all <;> omega)))

end Go.Vm
end
section
namespace Go.Vm
open Go.RowKit Go.Proofs
set_option linter.unusedVariables false
set_option linter.unusedSimpArgs false
set_option maxRecDepth 10000

open Go.Proofs.YtmmffeldlhofiaaGreatDoor Punnet.Name Punnet.Num

theorem strs_app2 {a b : ByteArray} {l : List ByteArray} : [strD a, strD b] ++ l.map strD = (a :: b :: l).map strD := rfl
theorem placeT_size {r : RefD} (h : placeB r = true) : (placeT r).size ≤ 40 := by
  obtain ⟨_, h1, h2⟩ := placeB_size h
  rw [← ba_len, show (placeT r).data.toList = placeL r from mkB_data _]
  unfold placeL
  have h4 := scopeL_len r
  unfold scopeL at h4
  rw [List.length_append, h4, List.length_append, List.length_cons, ba_len]
  split
  · rw [List.length_nil]; omega
  · rw [List.length_cons, ba_len]; omega
theorem quoteB_size (s : ByteArray) : (quoteB s).size ≤ 3 * s.size + 2 := by
  rw [quote_size]
  unfold quoteL
  rw [List.length_cons, List.length_append, List.length_singleton]
  have : ∀ l : List UInt8, (l.flatMap signOf).length ≤ 3 * l.length := by
    intro l
    induction l with
    | nil => simp
    | cons c l ih => rw [List.flatMap_cons, List.length_append, List.length_cons]; have : (signOf c).length ≤ 3 := by unfold signOf; split <;> simp
                     omega
  have := this s.data.toList
  rw [ba_len] at this
  omega
theorem join_small {c : UInt8} {n m : Nat} {l : List ByteArray} (hl : l.length ≤ m) (h : ∀ w ∈ l, w.size ≤ n) : (joinW c l).size ≤ m * (n + 1) := by
  rw [← ba_len, joinW_data]
  have := joinC_size c (n := n) (l := l.map (·.data.toList)) (fun w hw => by obtain ⟨a, ha, rfl⟩ := List.mem_map.1 hw; exact h a ha)
  rw [List.length_map] at this
  exact Nat.le_trans this (Nat.mul_le_mul_right _ hl)
theorem fieldW_sizes {f : FieldD} (h : rightF f = true) : ∀ w ∈ fieldW f, w.size ≤ 200 := by
  obtain ⟨hp, hdz, hcz, hce, hki, hwo⟩ := rightF_size h
  have h1 := placeT_size hp
  have h2 := print_size hwo
  have h3 := quoteB_size f.deft
  have h4 := join_small (c := 44) hcz hce
  unfold fieldW
  split
  · simp only [List.forall_mem_cons, List.not_mem_nil, false_implies, implies_true, and_true]; exact ⟨by decide, by omega, by omega⟩
  split
  · simp only [List.forall_mem_cons, List.not_mem_nil, false_implies, implies_true, and_true]; exact ⟨by decide, by omega, by omega⟩
  split
  · simp only [List.forall_mem_cons, List.not_mem_nil, false_implies, implies_true, and_true]; exact ⟨by decide, by omega, by omega, by omega⟩
  · simp only [List.forall_mem_cons, List.not_mem_nil, false_implies, implies_true, and_true]; exact ⟨by decide, by omega⟩
theorem lensW_len (x : LensD) : (lensW x).length ≤ 6 := by
  have := fieldW_len x.field
  unfold lensW
  repeat (first | (split; (simp only [List.length_cons, List.length_nil]; omega)) | split)
  all_goals (simp only [List.length_cons, List.length_nil]; omega)
theorem lensW_sizes {x : LensD} (h : rightL x = true) : ∀ w ∈ lensW x, w.size ≤ 200 := by
  cases rl_of h with
  | add f hf => show ∀ w ∈ _ :: fieldW f, _; simp only [List.forall_mem_cons]; exact ⟨by decide, fieldW_sizes hf⟩
  | remove f hf => show ∀ w ∈ _ :: fieldW f, _; simp only [List.forall_mem_cons]; exact ⟨by decide, fieldW_sizes hf⟩
  | convert r n o a b hp hn ho h1 h2 =>
    have q1 := placeT_size hp
    have q2 := nameB_size hn
    have q3 := nameB_size ho
    have t1 := rightT_both h1 h2
    have q4 := join_small (c := 44) (m := 6) (l := a.map pairT) (by rw [List.length_map]; exact (rightT_size h1).1) (pairT_sizes t1.1)
    have q5 := join_small (c := 44) (m := 6) (l := b.map pairT) (by rw [List.length_map]; exact (rightT_size h2).1) (pairT_sizes t1.2)
    show ∀ w ∈ [_, placeT r, n, o, pairsT a, pairsT b], _
    simp only [List.forall_mem_cons, List.not_mem_nil, false_implies, implies_true, and_true]
    exact ⟨by decide, by omega, by omega, by omega, by unfold pairsT; omega, by unfold pairsT; omega⟩
  | split r n o k hp hn ho hk =>
    have q1 := placeT_size hp
    have q2 := nameB_size hn
    have q3 := nameB_size ho
    have q4 := print_size hk
    show ∀ w ∈ [_, placeT r, n, o, printB k], _
    simp only [List.forall_mem_cons, List.not_mem_nil, false_implies, implies_true, and_true]
    exact ⟨by decide, by omega, by omega, by omega, by omega⟩
  | merge r n o k hp hn ho hk =>
    have q1 := placeT_size hp
    have q2 := nameB_size hn
    have q3 := nameB_size ho
    have q4 := print_size hk
    show ∀ w ∈ [_, placeT r, n, o, printB k], _
    simp only [List.forall_mem_cons, List.not_mem_nil, false_implies, implies_true, and_true]
    exact ⟨by decide, by omega, by omega, by omega, by omega⟩
  | wrap r o hp ho =>
    have q1 := placeT_size hp
    have q2 := quoteB_size o
    show ∀ w ∈ [_, placeT r, quoteB o], _
    simp only [List.forall_mem_cons, List.not_mem_nil, false_implies, implies_true, and_true]
    exact ⟨by decide, by omega, by omega⟩
  | unwrap r o hp ho =>
    have q1 := placeT_size hp
    have q2 := quoteB_size o
    show ∀ w ∈ [_, placeT r, quoteB o], _
    simp only [List.forall_mem_cons, List.not_mem_nil, false_implies, implies_true, and_true]
    exact ⟨by decide, by omega, by omega⟩
  | rename r n hp hn =>
    have q1 := placeT_size hp
    have q2 := nameB_size hn
    show ∀ w ∈ [_, placeT r, n], _
    simp only [List.forall_mem_cons, List.not_mem_nil, false_implies, implies_true, and_true]
    exact ⟨by decide, by omega, by omega⟩
  | hoist r hp =>
    have q1 := placeT_size hp
    show ∀ w ∈ [_, placeT r], _
    simp only [List.forall_mem_cons, List.not_mem_nil, false_implies, implies_true, and_true]
    exact ⟨by decide, by omega⟩
  | plunge r n hp hn =>
    have q1 := placeT_size hp
    have q2 := nameB_size hn
    show ∀ w ∈ [_, placeT r, n], _
    simp only [List.forall_mem_cons, List.not_mem_nil, false_implies, implies_true, and_true]
    exact ⟨by decide, by omega, by omega⟩
theorem tagT_size {t : TagD} (h : tagIn t) : (tagT t).size ≤ 70 := by
  have h1 := print_size h.1
  have h2 := print_size h.2
  rw [printB_size] at h1 h2
  unfold tagT
  rw [← ba_len, mkB_data, List.length_append, List.length_cons]
  omega
theorem edgeW_sizes {e : EdgeD} (h : edgeB e = true) : ∀ w ∈ edgeW e, w.size ≤ 200 := by
  obtain ⟨h1, h2, h3⟩ := edgeB_tags h
  have q1 := tagT_size h1
  have q2 := tagT_size h2
  unfold edgeW
  simp only [List.forall_mem_cons]
  exact ⟨by omega, by omega, lensW_sizes h3⟩

set_option maxHeartbeats 1000000 in
theorem skField_any (f : FieldD) (hc : f.cases.length ≤ 1000000) : Contract Tryz.prog 23 [fD f] [.d (.sc (.string (if rightF f = true then textF f else noB))), .d (.sc (.int .i64 ((if rightF f = true then 0 else 5))))] := by
 refine T.fn [] Tryz.func23 ?_
 refine x_call T.en_72 (fieldRight_any f hc) ?_
 refine br (fun hc1 => ?y1) (fun hc1 => ?n1)
 case' y1 =>
  have hr : rightF f = false := hc1
 case' n1 =>
  have hr : rightF f = true := hc1
  refine x_call T.en_73 (fieldWords_any f hr) ?_
  refine x_call T.en_50 (join_any 32 (fieldW f) (by have := fieldW_len f; omega) (joinW_size 32 (n := 200) (by have := fieldW_len f; omega) (fieldW_sizes hr))) ?_
 all_goals (refine x_ret ?_; simp only [fitsL, fits, C.asD, and_true] <;> (first | (rw [if_pos hr, if_pos hr]; exact ⟨rfl, rfl⟩) | (rw [if_neg (by rw [hr]; decide), if_neg (by rw [hr]; decide)]; exact ⟨rfl, rfl⟩)))

set_option maxHeartbeats 1000000 in
theorem skLens_any (x : LensD) (hc : okX x) : Contract Tryz.prog 16 [lD x] [.d (.sc (.string (if rightL x = true then textL x else noB))), .d (.sc (.int .i64 ((if rightL x = true then 0 else 5))))] := by
 refine T.fn [] Tryz.func16 ?_
 refine x_call T.en_58 (lensRight_any x hc) ?_
 refine br (fun hc1 => ?y1) (fun hc1 => ?n1)
 case' y1 =>
  have hr : rightL x = false := hc1
 case' n1 =>
  have hr : rightL x = true := hc1
  refine x_call T.en_49 (lensWords_any x hr) ?_
  refine x_call T.en_50 (join_any 32 (lensW x) (by have := lensW_len x; omega) (joinW_size 32 (n := 200) (by have := lensW_len x; omega) (lensW_sizes hr))) ?_
 all_goals (refine x_ret ?_; simp only [fitsL, fits, C.asD, and_true] <;> (first | (rw [if_pos hr, if_pos hr]; exact ⟨rfl, rfl⟩) | (rw [if_neg (by rw [hr]; decide), if_neg (by rw [hr]; decide)]; exact ⟨rfl, rfl⟩)))

set_option maxHeartbeats 1000000 in
theorem skEdge_any (e : EdgeD) (hc : okX e.lens) : Contract Tryz.prog 10 [eD e] [.d (.sc (.string (if edgeB e = true then textE e else noB))), .d (.sc (.int .i64 ((if edgeB e = true then 0 else 5))))] := by
 refine T.fn [1018] Tryz.func10 ?_
 refine x_call T.en_47 (edge_any e hc) ?_
 refine br (fun hc1 => ?y1) (fun hc1 => ?n1)
 case' y1 =>
  have hr : edgeB e = false := hc1
 case' n1 =>
  have hr : edgeB e = true := hc1
  have ht := edgeB_tags hr
  have hlw := lensW_len e.lens
  refine And.intro ⟨T.mixed, by decide +kernel⟩ ?_
  refine x_call T.en_48 (scriptTag_any e.id ht.1) ?_
  refine x_call T.en_48 (scriptTag_any e.parent ht.2.1) ?_
  refine x_call T.en_49 (lensWords_any e.lens ht.2.2) ?_
  first | refine x_app ?_ (by first | exact str1_wide | exact strsl_wide _ | (intro x hx; cases hx)) (hz := by first | exact strs_app2 | exact rfl | rfl) (h1 := by unfold maxLen; ((try simp only [List.length_map, List.length_cons, List.length_nil]); omega)) (h2 := by ((try simp only [List.length_map, List.length_cons, List.length_nil]); omega)) | refine x_appN ?_ (by first | exact str1_wide | exact strsl_wide _ | (intro x hx; cases hx)) (h1 := by unfold maxLen; ((try simp only [List.length_map, List.length_cons, List.length_nil]); omega)) (h2 := by ((try simp only [List.length_map, List.length_cons, List.length_nil]); omega))
  refine x_call T.en_50 (join_any 32 (edgeW e) (by have := lensW_len e.lens; show _ + 1 + 1 ≤ _; omega) (joinW_size 32 (n := 200) (by have := lensW_len e.lens; show _ + 1 + 1 ≤ _; omega) (edgeW_sizes hr))) ?_
 all_goals (refine x_ret ?_; simp only [fitsL, fits, C.asD, and_true] <;> (first | (rw [if_pos hr, if_pos hr]; exact ⟨rfl, rfl⟩) | (rw [if_neg (by rw [hr]; decide), if_neg (by rw [hr]; decide)]; exact ⟨rfl, rfl⟩)))
end Go.Vm
end
section
namespace Go.Vm
open Go.RowKit Go.Proofs
set_option linter.unusedVariables false
set_option linter.unusedSimpArgs false
set_option maxRecDepth 10000

open Go.Proofs.YtmmffeldlhofiaaGreatDoor Punnet.Name Punnet.Num

theorem ix5 {s : ByteArray} {k : Nat} {c : UInt8} (h : s[5 + k]? = some c) : s[((5 + k : Nat) : Int).toNat]? = some c := by rw [Int.toNat_natCast]; exact h

set_option maxHeartbeats 1000000 in
theorem ref13Read_any (s : ByteArray) (hs : s.size ≤ 1000000) : Contract Tryz.prog 102 [.sc (.string (s))] [.d (rD ((placeOf s).getD noRef)), .d (.sc (.bool ((placeOf s).isSome)))] := by
 refine T.fn [] Tryz.func102 ?_
 refine x_len ?_
 refine br (fun hg1 => ?y1) (fun hg1 => ?n1)
 case' y1 =>
  have hN := place2_no1 (s := s) (by omega)
  refine brT ?_
 case' n1 =>
  first | refine x_bnd ?_ | refine x_bndI ?_
  refine x_str ?_ (h1 := by (first | omega | (show (5 : Nat) ≤ _; omega))) (h2 := by (first | omega | (show (5 : Nat) ≤ _; omega)))
  refine br (fun hg3 => ?y3) (fun hg3 => ?n3)
  case' y3 =>
   have hn1 := hg3
   first | refine x_bnd ?_ | refine x_bndI ?_
   refine x_str ?_ (h1 := by (first | omega | (show (5 : Nat) ≤ _; omega))) (h2 := by (first | omega | (show (5 : Nat) ≤ _; omega)))
   refine br (fun hc4 => ?y4) (fun hc4 => ?n4)
   case' y4 =>
    have hN := place2_no2 (s := s) hn1 hc4
   case' n4 =>
    have hs6 : 6 ≤ s.size := by omega
    obtain ⟨b0, hb0⟩ : ∃ b, s[0]? = some b := ⟨_, getElem?_pos s 0 (by omega)⟩
    first | refine x_bnd ?_ | refine x_bndI ?_
    refine x_str ?_ (h1 := by (first | omega | (show (5 : Nat) ≤ _; omega))) (h2 := by (first | omega | (show (5 : Nat) ≤ _; omega)))
    first | refine x_ch (by first | exact hb0 | exact ix5 hc) ?_ | refine x_chI (by first | exact hb0 | exact ix5 hc) ?_
    refine br (fun hc5 => ?y5) (fun hc5 => ?n5)
    case' y5 =>
     have hb1 : b0 = 108 := by rw [← UInt8.toNat_inj]; show b0.toNat = 108; omega
     obtain ⟨sc, hsc, hs0⟩ : ∃ sc : Int, sc = 1 ∧ (if s[0]? = some 108 then (1 : Int) else 0) = sc := ⟨1, rfl, by rw [hb0, hb1]; rfl⟩
     refine xloopR (fb := []) T.ok (Nat.le_of_ble_eq_true rfl) [0, 2] (fun (k : Nat) => [(5, .c (.d (.sc (.int .i64 ((5 + k : Nat) : Int))))), (4, .box [.sc (.int .i64 sc), .sc (.string (gnTo s k).1), .sc (.string (gnTo s k).2)])]) (fun k => 5 + k ≤ s.size) (fun k => s.size - k) 0 (by omega) (x_ent (by first | rfl | (simp only [Tr.get]; simp; done)) (x_ent (by subst hsc; rfl) trivial)) ?_
     rintro k hk
     refine x_len ?_
     refine br (fun hc6 => ?y6) (fun hc6 => ?n6)
     case' y6 =>
      obtain ⟨c, hc⟩ : ∃ c, s[5 + k]? = some c := ⟨_, getElem?_pos s (5 + k) (by omega)⟩
      first | refine x_ch (by first | exact hb0 | exact ix5 hc) ?_ | refine x_chI (by first | exact hb0 | exact ix5 hc) ?_
      refine br (fun hg7 => ?y7) (fun hg7 => ?n7)
      case' y7 =>
       have hc46 : s[5 + k]? = some 46 := by rw [hc, show c = 46 by rw [← UInt8.toNat_inj]; show c.toNat = 46; omega]
       refine br (fun hc8 => ?y8) (fun hc8 => ?n8)
       case' y8 =>
        have hgn : gnTo s (k + 1) = (s.extract 5 (5 + k), s.extract (5 + k + 1) s.size) := by rw [gnTo, if_pos ⟨hc46, hc8⟩]
        first | refine x_bnd ?_ | refine x_bndI ?_
        first | refine x_bnd ?_ | refine x_bndI ?_
        refine x_str ?_ (h1 := by (first | omega | (show (5 : Nat) ≤ _; omega))) (h2 := by (first | omega | (show (5 : Nat) ≤ _; omega)))
        first | refine x_inc ?_ (h := by (first | omega | (show (5 : Nat) ≤ _; omega))) | refine x_add ?_ (h := by first | exact IntWalk.i64_in _ (by (first | omega | (show (5 : Nat) ≤ _; omega))) | rfl) | refine x_bin rfl rfl ?_
        first | refine x_bnd ?_ | refine x_bndI ?_
        refine x_str ?_ (h1 := by (first | omega | (show (5 : Nat) ≤ _; omega))) (h2 := by (first | omega | (show (5 : Nat) ≤ _; omega)))
        first | refine x_inc ?_ (h := by (first | omega | (show (5 : Nat) ≤ _; omega))) | refine x_add ?_ (h := by first | exact IntWalk.i64_in _ (by (first | omega | (show (5 : Nat) ≤ _; omega))) | rfl) | refine x_bin rfl rfl ?_
        refine x_rnd (k + 1) (by (try dsimp only); omega) (by (try dsimp only); omega) rfl (x_ent (by first | rfl | (simp only [Tr.get]; simp; done)) (x_ent (by simp only [Tr.get]; first | (rw [hgn]; done) | (rw [hgn]; rfl)) trivial)) rfl
       case' n8 =>
        have hgn : gnTo s (k + 1) = gnTo s k := by rw [gnTo, if_neg (fun e => hc8 e.2)]
        first | refine x_inc ?_ (h := by (first | omega | (show (5 : Nat) ≤ _; omega))) | refine x_add ?_ (h := by first | exact IntWalk.i64_in _ (by (first | omega | (show (5 : Nat) ≤ _; omega))) | rfl) | refine x_bin rfl rfl ?_
        refine x_rnd (k + 1) (by (try dsimp only); omega) (by (try dsimp only); omega) rfl (x_ent (by first | rfl | (simp only [Tr.get]; simp; done)) (x_ent (by simp only [Tr.get]; first | (rw [hgn]; done) | (rw [hgn]; rfl)) trivial)) rfl
      case' n7 =>
       have hgn : gnTo s (k + 1) = gnTo s k := by rw [gnTo, if_neg]; rintro ⟨e, _⟩; rw [hc] at e; injection e with e; subst e; exact hg7 rfl
       refine brF ?_
       first | refine x_inc ?_ (h := by (first | omega | (show (5 : Nat) ≤ _; omega))) | refine x_add ?_ (h := by first | exact IntWalk.i64_in _ (by (first | omega | (show (5 : Nat) ≤ _; omega))) | rfl) | refine x_bin rfl rfl ?_
       refine x_rnd (k + 1) (by (try dsimp only); omega) (by (try dsimp only); omega) rfl (x_ent (by first | rfl | (simp only [Tr.get]; simp; done)) (x_ent (by simp only [Tr.get]; first | (rw [hgn]; done) | (rw [hgn]; rfl)) trivial)) rfl
     case' n6 =>
      obtain rfl : k = s.size - 5 := by omega
      have hcd : candR2 s = ⟨sc, (gnTo s (s.size - 5)).1, (gnTo s (s.size - 5)).2⟩ := by unfold candR2; rw [hs0]
      refine x_call T.en_60 (refPlace_any ⟨sc, (gnTo s (s.size - 5)).1, (gnTo s (s.size - 5)).2⟩) ?_
      refine br (fun hg10 => ?y10) (fun hg10 => ?n10)
      case' y10 =>
       have hN := place2_no3 (s := s) (by rw [hcd]; exact hg10)
       refine brT ?_
      case' n10 =>
       have hpb : placeB (candR2 s) = true := by rw [hcd]; exact hg10
       refine x_call T.en_67 (ref13Print_any ⟨sc, (gnTo s (s.size - 5)).1, (gnTo s (s.size - 5)).2⟩) ?_
       refine br (fun hc12 => ?y12) (fun hc12 => ?n12)
       case' y12 =>
        have hN := place2_no4 (s := s) (by rw [hcd]; intro e; apply hc12; rw [if_pos (by rw [← hcd]; exact hpb)]; exact e)
       case' n12 =>
        have hY := placeOf_some hpb (s := s) (by rw [hcd]; have h9 := hc12; rw [if_pos (by rw [← hcd]; exact hpb)] at h9; exact h9)
        rw [hcd] at hY
    case' n5 =>
     have hb1 : ¬ b0 = 108 := by rintro rfl; exact hc5 rfl
     obtain ⟨sc, hsc, hs0⟩ : ∃ sc : Int, sc = 0 ∧ (if s[0]? = some 108 then (1 : Int) else 0) = sc := ⟨0, rfl, by rw [hb0, if_neg (by simpa using hb1)]⟩
     refine xloopR (fb := []) T.ok (Nat.le_of_ble_eq_true rfl) [0, 2] (fun (k : Nat) => [(5, .c (.d (.sc (.int .i64 ((5 + k : Nat) : Int))))), (4, .box [.sc (.int .i64 sc), .sc (.string (gnTo s k).1), .sc (.string (gnTo s k).2)])]) (fun k => 5 + k ≤ s.size) (fun k => s.size - k) 0 (by omega) (x_ent (by first | rfl | (simp only [Tr.get]; simp; done)) (x_ent (by subst hsc; rfl) trivial)) ?_
     rintro k hk
     refine x_len ?_
     refine br (fun hc13 => ?y13) (fun hc13 => ?n13)
     case' y13 =>
      obtain ⟨c, hc⟩ : ∃ c, s[5 + k]? = some c := ⟨_, getElem?_pos s (5 + k) (by omega)⟩
      first | refine x_ch (by first | exact hb0 | exact ix5 hc) ?_ | refine x_chI (by first | exact hb0 | exact ix5 hc) ?_
      refine br (fun hg14 => ?y14) (fun hg14 => ?n14)
      case' y14 =>
       have hc46 : s[5 + k]? = some 46 := by rw [hc, show c = 46 by rw [← UInt8.toNat_inj]; show c.toNat = 46; omega]
       refine br (fun hc15 => ?y15) (fun hc15 => ?n15)
       case' y15 =>
        have hgn : gnTo s (k + 1) = (s.extract 5 (5 + k), s.extract (5 + k + 1) s.size) := by rw [gnTo, if_pos ⟨hc46, hc15⟩]
        first | refine x_bnd ?_ | refine x_bndI ?_
        first | refine x_bnd ?_ | refine x_bndI ?_
        refine x_str ?_ (h1 := by (first | omega | (show (5 : Nat) ≤ _; omega))) (h2 := by (first | omega | (show (5 : Nat) ≤ _; omega)))
        first | refine x_inc ?_ (h := by (first | omega | (show (5 : Nat) ≤ _; omega))) | refine x_add ?_ (h := by first | exact IntWalk.i64_in _ (by (first | omega | (show (5 : Nat) ≤ _; omega))) | rfl) | refine x_bin rfl rfl ?_
        first | refine x_bnd ?_ | refine x_bndI ?_
        refine x_str ?_ (h1 := by (first | omega | (show (5 : Nat) ≤ _; omega))) (h2 := by (first | omega | (show (5 : Nat) ≤ _; omega)))
        first | refine x_inc ?_ (h := by (first | omega | (show (5 : Nat) ≤ _; omega))) | refine x_add ?_ (h := by first | exact IntWalk.i64_in _ (by (first | omega | (show (5 : Nat) ≤ _; omega))) | rfl) | refine x_bin rfl rfl ?_
        refine x_rnd (k + 1) (by (try dsimp only); omega) (by (try dsimp only); omega) rfl (x_ent (by first | rfl | (simp only [Tr.get]; simp; done)) (x_ent (by simp only [Tr.get]; first | (rw [hgn]; done) | (rw [hgn]; rfl)) trivial)) rfl
       case' n15 =>
        have hgn : gnTo s (k + 1) = gnTo s k := by rw [gnTo, if_neg (fun e => hc15 e.2)]
        first | refine x_inc ?_ (h := by (first | omega | (show (5 : Nat) ≤ _; omega))) | refine x_add ?_ (h := by first | exact IntWalk.i64_in _ (by (first | omega | (show (5 : Nat) ≤ _; omega))) | rfl) | refine x_bin rfl rfl ?_
        refine x_rnd (k + 1) (by (try dsimp only); omega) (by (try dsimp only); omega) rfl (x_ent (by first | rfl | (simp only [Tr.get]; simp; done)) (x_ent (by simp only [Tr.get]; first | (rw [hgn]; done) | (rw [hgn]; rfl)) trivial)) rfl
      case' n14 =>
       have hgn : gnTo s (k + 1) = gnTo s k := by rw [gnTo, if_neg]; rintro ⟨e, _⟩; rw [hc] at e; injection e with e; subst e; exact hg14 rfl
       refine brF ?_
       first | refine x_inc ?_ (h := by (first | omega | (show (5 : Nat) ≤ _; omega))) | refine x_add ?_ (h := by first | exact IntWalk.i64_in _ (by (first | omega | (show (5 : Nat) ≤ _; omega))) | rfl) | refine x_bin rfl rfl ?_
       refine x_rnd (k + 1) (by (try dsimp only); omega) (by (try dsimp only); omega) rfl (x_ent (by first | rfl | (simp only [Tr.get]; simp; done)) (x_ent (by simp only [Tr.get]; first | (rw [hgn]; done) | (rw [hgn]; rfl)) trivial)) rfl
     case' n13 =>
      obtain rfl : k = s.size - 5 := by omega
      have hcd : candR2 s = ⟨sc, (gnTo s (s.size - 5)).1, (gnTo s (s.size - 5)).2⟩ := by unfold candR2; rw [hs0]
      refine x_call T.en_60 (refPlace_any ⟨sc, (gnTo s (s.size - 5)).1, (gnTo s (s.size - 5)).2⟩) ?_
      refine br (fun hg17 => ?y17) (fun hg17 => ?n17)
      case' y17 =>
       have hN := place2_no3 (s := s) (by rw [hcd]; exact hg17)
       refine brT ?_
      case' n17 =>
       have hpb : placeB (candR2 s) = true := by rw [hcd]; exact hg17
       refine x_call T.en_67 (ref13Print_any ⟨sc, (gnTo s (s.size - 5)).1, (gnTo s (s.size - 5)).2⟩) ?_
       refine br (fun hc19 => ?y19) (fun hc19 => ?n19)
       case' y19 =>
        have hN := place2_no4 (s := s) (by rw [hcd]; intro e; apply hc19; rw [if_pos (by rw [← hcd]; exact hpb)]; exact e)
       case' n19 =>
        have hY := placeOf_some hpb (s := s) (by rw [hcd]; have h9 := hc19; rw [if_pos (by rw [← hcd]; exact hpb)] at h9; exact h9)
        rw [hcd] at hY
  case' n3 =>
   refine brF ?_
   have hs6 : 6 ≤ s.size := by omega
   obtain ⟨b0, hb0⟩ : ∃ b, s[0]? = some b := ⟨_, getElem?_pos s 0 (by omega)⟩
   first | refine x_bnd ?_ | refine x_bndI ?_
   refine x_str ?_ (h1 := by (first | omega | (show (5 : Nat) ≤ _; omega))) (h2 := by (first | omega | (show (5 : Nat) ≤ _; omega)))
   first | refine x_ch (by first | exact hb0 | exact ix5 hc) ?_ | refine x_chI (by first | exact hb0 | exact ix5 hc) ?_
   refine br (fun hc21 => ?y21) (fun hc21 => ?n21)
   case' y21 =>
    have hb1 : b0 = 108 := by rw [← UInt8.toNat_inj]; show b0.toNat = 108; omega
    obtain ⟨sc, hsc, hs0⟩ : ∃ sc : Int, sc = 1 ∧ (if s[0]? = some 108 then (1 : Int) else 0) = sc := ⟨1, rfl, by rw [hb0, hb1]; rfl⟩
    refine xloopR (fb := []) T.ok (Nat.le_of_ble_eq_true rfl) [0, 2] (fun (k : Nat) => [(5, .c (.d (.sc (.int .i64 ((5 + k : Nat) : Int))))), (4, .box [.sc (.int .i64 sc), .sc (.string (gnTo s k).1), .sc (.string (gnTo s k).2)])]) (fun k => 5 + k ≤ s.size) (fun k => s.size - k) 0 (by omega) (x_ent (by first | rfl | (simp only [Tr.get]; simp; done)) (x_ent (by subst hsc; rfl) trivial)) ?_
    rintro k hk
    refine x_len ?_
    refine br (fun hc22 => ?y22) (fun hc22 => ?n22)
    case' y22 =>
     obtain ⟨c, hc⟩ : ∃ c, s[5 + k]? = some c := ⟨_, getElem?_pos s (5 + k) (by omega)⟩
     first | refine x_ch (by first | exact hb0 | exact ix5 hc) ?_ | refine x_chI (by first | exact hb0 | exact ix5 hc) ?_
     refine br (fun hg23 => ?y23) (fun hg23 => ?n23)
     case' y23 =>
      have hc46 : s[5 + k]? = some 46 := by rw [hc, show c = 46 by rw [← UInt8.toNat_inj]; show c.toNat = 46; omega]
      refine br (fun hc24 => ?y24) (fun hc24 => ?n24)
      case' y24 =>
       have hgn : gnTo s (k + 1) = (s.extract 5 (5 + k), s.extract (5 + k + 1) s.size) := by rw [gnTo, if_pos ⟨hc46, hc24⟩]
       first | refine x_bnd ?_ | refine x_bndI ?_
       first | refine x_bnd ?_ | refine x_bndI ?_
       refine x_str ?_ (h1 := by (first | omega | (show (5 : Nat) ≤ _; omega))) (h2 := by (first | omega | (show (5 : Nat) ≤ _; omega)))
       first | refine x_inc ?_ (h := by (first | omega | (show (5 : Nat) ≤ _; omega))) | refine x_add ?_ (h := by first | exact IntWalk.i64_in _ (by (first | omega | (show (5 : Nat) ≤ _; omega))) | rfl) | refine x_bin rfl rfl ?_
       first | refine x_bnd ?_ | refine x_bndI ?_
       refine x_str ?_ (h1 := by (first | omega | (show (5 : Nat) ≤ _; omega))) (h2 := by (first | omega | (show (5 : Nat) ≤ _; omega)))
       first | refine x_inc ?_ (h := by (first | omega | (show (5 : Nat) ≤ _; omega))) | refine x_add ?_ (h := by first | exact IntWalk.i64_in _ (by (first | omega | (show (5 : Nat) ≤ _; omega))) | rfl) | refine x_bin rfl rfl ?_
       refine x_rnd (k + 1) (by (try dsimp only); omega) (by (try dsimp only); omega) rfl (x_ent (by first | rfl | (simp only [Tr.get]; simp; done)) (x_ent (by simp only [Tr.get]; first | (rw [hgn]; done) | (rw [hgn]; rfl)) trivial)) rfl
      case' n24 =>
       have hgn : gnTo s (k + 1) = gnTo s k := by rw [gnTo, if_neg (fun e => hc24 e.2)]
       first | refine x_inc ?_ (h := by (first | omega | (show (5 : Nat) ≤ _; omega))) | refine x_add ?_ (h := by first | exact IntWalk.i64_in _ (by (first | omega | (show (5 : Nat) ≤ _; omega))) | rfl) | refine x_bin rfl rfl ?_
       refine x_rnd (k + 1) (by (try dsimp only); omega) (by (try dsimp only); omega) rfl (x_ent (by first | rfl | (simp only [Tr.get]; simp; done)) (x_ent (by simp only [Tr.get]; first | (rw [hgn]; done) | (rw [hgn]; rfl)) trivial)) rfl
     case' n23 =>
      have hgn : gnTo s (k + 1) = gnTo s k := by rw [gnTo, if_neg]; rintro ⟨e, _⟩; rw [hc] at e; injection e with e; subst e; exact hg23 rfl
      refine brF ?_
      first | refine x_inc ?_ (h := by (first | omega | (show (5 : Nat) ≤ _; omega))) | refine x_add ?_ (h := by first | exact IntWalk.i64_in _ (by (first | omega | (show (5 : Nat) ≤ _; omega))) | rfl) | refine x_bin rfl rfl ?_
      refine x_rnd (k + 1) (by (try dsimp only); omega) (by (try dsimp only); omega) rfl (x_ent (by first | rfl | (simp only [Tr.get]; simp; done)) (x_ent (by simp only [Tr.get]; first | (rw [hgn]; done) | (rw [hgn]; rfl)) trivial)) rfl
    case' n22 =>
     obtain rfl : k = s.size - 5 := by omega
     have hcd : candR2 s = ⟨sc, (gnTo s (s.size - 5)).1, (gnTo s (s.size - 5)).2⟩ := by unfold candR2; rw [hs0]
     refine x_call T.en_60 (refPlace_any ⟨sc, (gnTo s (s.size - 5)).1, (gnTo s (s.size - 5)).2⟩) ?_
     refine br (fun hg26 => ?y26) (fun hg26 => ?n26)
     case' y26 =>
      have hN := place2_no3 (s := s) (by rw [hcd]; exact hg26)
      refine brT ?_
     case' n26 =>
      have hpb : placeB (candR2 s) = true := by rw [hcd]; exact hg26
      refine x_call T.en_67 (ref13Print_any ⟨sc, (gnTo s (s.size - 5)).1, (gnTo s (s.size - 5)).2⟩) ?_
      refine br (fun hc28 => ?y28) (fun hc28 => ?n28)
      case' y28 =>
       have hN := place2_no4 (s := s) (by rw [hcd]; intro e; apply hc28; rw [if_pos (by rw [← hcd]; exact hpb)]; exact e)
      case' n28 =>
       have hY := placeOf_some hpb (s := s) (by rw [hcd]; have h9 := hc28; rw [if_pos (by rw [← hcd]; exact hpb)] at h9; exact h9)
       rw [hcd] at hY
   case' n21 =>
    have hb1 : ¬ b0 = 108 := by rintro rfl; exact hc21 rfl
    obtain ⟨sc, hsc, hs0⟩ : ∃ sc : Int, sc = 0 ∧ (if s[0]? = some 108 then (1 : Int) else 0) = sc := ⟨0, rfl, by rw [hb0, if_neg (by simpa using hb1)]⟩
    refine xloopR (fb := []) T.ok (Nat.le_of_ble_eq_true rfl) [0, 2] (fun (k : Nat) => [(5, .c (.d (.sc (.int .i64 ((5 + k : Nat) : Int))))), (4, .box [.sc (.int .i64 sc), .sc (.string (gnTo s k).1), .sc (.string (gnTo s k).2)])]) (fun k => 5 + k ≤ s.size) (fun k => s.size - k) 0 (by omega) (x_ent (by first | rfl | (simp only [Tr.get]; simp; done)) (x_ent (by subst hsc; rfl) trivial)) ?_
    rintro k hk
    refine x_len ?_
    refine br (fun hc29 => ?y29) (fun hc29 => ?n29)
    case' y29 =>
     obtain ⟨c, hc⟩ : ∃ c, s[5 + k]? = some c := ⟨_, getElem?_pos s (5 + k) (by omega)⟩
     first | refine x_ch (by first | exact hb0 | exact ix5 hc) ?_ | refine x_chI (by first | exact hb0 | exact ix5 hc) ?_
     refine br (fun hg30 => ?y30) (fun hg30 => ?n30)
     case' y30 =>
      have hc46 : s[5 + k]? = some 46 := by rw [hc, show c = 46 by rw [← UInt8.toNat_inj]; show c.toNat = 46; omega]
      refine br (fun hc31 => ?y31) (fun hc31 => ?n31)
      case' y31 =>
       have hgn : gnTo s (k + 1) = (s.extract 5 (5 + k), s.extract (5 + k + 1) s.size) := by rw [gnTo, if_pos ⟨hc46, hc31⟩]
       first | refine x_bnd ?_ | refine x_bndI ?_
       first | refine x_bnd ?_ | refine x_bndI ?_
       refine x_str ?_ (h1 := by (first | omega | (show (5 : Nat) ≤ _; omega))) (h2 := by (first | omega | (show (5 : Nat) ≤ _; omega)))
       first | refine x_inc ?_ (h := by (first | omega | (show (5 : Nat) ≤ _; omega))) | refine x_add ?_ (h := by first | exact IntWalk.i64_in _ (by (first | omega | (show (5 : Nat) ≤ _; omega))) | rfl) | refine x_bin rfl rfl ?_
       first | refine x_bnd ?_ | refine x_bndI ?_
       refine x_str ?_ (h1 := by (first | omega | (show (5 : Nat) ≤ _; omega))) (h2 := by (first | omega | (show (5 : Nat) ≤ _; omega)))
       first | refine x_inc ?_ (h := by (first | omega | (show (5 : Nat) ≤ _; omega))) | refine x_add ?_ (h := by first | exact IntWalk.i64_in _ (by (first | omega | (show (5 : Nat) ≤ _; omega))) | rfl) | refine x_bin rfl rfl ?_
       refine x_rnd (k + 1) (by (try dsimp only); omega) (by (try dsimp only); omega) rfl (x_ent (by first | rfl | (simp only [Tr.get]; simp; done)) (x_ent (by simp only [Tr.get]; first | (rw [hgn]; done) | (rw [hgn]; rfl)) trivial)) rfl
      case' n31 =>
       have hgn : gnTo s (k + 1) = gnTo s k := by rw [gnTo, if_neg (fun e => hc31 e.2)]
       first | refine x_inc ?_ (h := by (first | omega | (show (5 : Nat) ≤ _; omega))) | refine x_add ?_ (h := by first | exact IntWalk.i64_in _ (by (first | omega | (show (5 : Nat) ≤ _; omega))) | rfl) | refine x_bin rfl rfl ?_
       refine x_rnd (k + 1) (by (try dsimp only); omega) (by (try dsimp only); omega) rfl (x_ent (by first | rfl | (simp only [Tr.get]; simp; done)) (x_ent (by simp only [Tr.get]; first | (rw [hgn]; done) | (rw [hgn]; rfl)) trivial)) rfl
     case' n30 =>
      have hgn : gnTo s (k + 1) = gnTo s k := by rw [gnTo, if_neg]; rintro ⟨e, _⟩; rw [hc] at e; injection e with e; subst e; exact hg30 rfl
      refine brF ?_
      first | refine x_inc ?_ (h := by (first | omega | (show (5 : Nat) ≤ _; omega))) | refine x_add ?_ (h := by first | exact IntWalk.i64_in _ (by (first | omega | (show (5 : Nat) ≤ _; omega))) | rfl) | refine x_bin rfl rfl ?_
      refine x_rnd (k + 1) (by (try dsimp only); omega) (by (try dsimp only); omega) rfl (x_ent (by first | rfl | (simp only [Tr.get]; simp; done)) (x_ent (by simp only [Tr.get]; first | (rw [hgn]; done) | (rw [hgn]; rfl)) trivial)) rfl
    case' n29 =>
     obtain rfl : k = s.size - 5 := by omega
     have hcd : candR2 s = ⟨sc, (gnTo s (s.size - 5)).1, (gnTo s (s.size - 5)).2⟩ := by unfold candR2; rw [hs0]
     refine x_call T.en_60 (refPlace_any ⟨sc, (gnTo s (s.size - 5)).1, (gnTo s (s.size - 5)).2⟩) ?_
     refine br (fun hg33 => ?y33) (fun hg33 => ?n33)
     case' y33 =>
      have hN := place2_no3 (s := s) (by rw [hcd]; exact hg33)
      refine brT ?_
     case' n33 =>
      have hpb : placeB (candR2 s) = true := by rw [hcd]; exact hg33
      refine x_call T.en_67 (ref13Print_any ⟨sc, (gnTo s (s.size - 5)).1, (gnTo s (s.size - 5)).2⟩) ?_
      refine br (fun hc35 => ?y35) (fun hc35 => ?n35)
      case' y35 =>
       have hN := place2_no4 (s := s) (by rw [hcd]; intro e; apply hc35; rw [if_pos (by rw [← hcd]; exact hpb)]; exact e)
      case' n35 =>
       have hY := placeOf_some hpb (s := s) (by rw [hcd]; have h9 := hc35; rw [if_pos (by rw [← hcd]; exact hpb)] at h9; exact h9)
       rw [hcd] at hY
 all_goals (refine x_ret ?_; simp only [fitsL, fits, C.asD, and_true] <;> (first | (rw [hN]; exact ⟨rfl, rfl⟩) | (rw [hY]; exact ⟨rfl, rfl⟩)))
end Go.Vm
end
section
namespace Go.Vm
open Go.RowKit Go.Proofs
set_option linter.unusedVariables false
set_option linter.unusedSimpArgs false
set_option maxRecDepth 10000

open Go.Proofs.YtmmffeldlhofiaaGreatDoor Punnet.Name Punnet.Num

theorem wd_size {w : List ByteArray} (hw : ∀ a ∈ w, a.size ≤ 1000000) (i : Nat) : (wd w i).size ≤ 1000000 := by
  by_cases h : i < w.length
  · have e : wd w i = w[i] := by simp [wd, h]
    rw [e]; exact hw _ (List.getElem_mem h)
  · have e : wd w i = noB := by simp [wd, List.getElem?_eq_none (show w.length ≤ i by omega)]
    rw [e]; decide

set_option maxHeartbeats 1000000 in
theorem parseField_any (w : List ByteArray) (hw : ∀ a ∈ w, a.size ≤ 1000000) : Contract Tryz.prog 76 [.row (w.map strD)] [.d (fD (parseF w).1), .d (.sc (.bool ((parseF w).2)))] := by
 refine T.fn [] Tryz.func76 ?_
 refine x_len ?_
 refine br (fun hc1 => ?y1) (fun hc1 => ?n1)
 case' y1 =>
  have hP : parseF w = (noField, false) := by unfold parseF; rw [if_pos (by omega)]
 case' n1 =>
  have hl2 : ¬ w.length < 2 := by omega
  first | refine x_ix (by first | exact wd_ix (i := 0) rfl (by omega) | exact wd_ix (i := 1) rfl (by omega) | exact wd_ix (i := 2) rfl (by omega) | exact wd_ix (i := 3) rfl (by omega) | exact wd_ix (i := 4) rfl (by omega) | exact wd_ix (i := 5) rfl (by omega)) ?_ | refine x_ixI (by first | exact wd_ix (i := 0) rfl (by omega) | exact wd_ix (i := 1) rfl (by omega) | exact wd_ix (i := 2) rfl (by omega) | exact wd_ix (i := 3) rfl (by omega) | exact wd_ix (i := 4) rfl (by omega) | exact wd_ix (i := 5) rfl (by omega)) ?_
  refine x_call T.en_115 (fieldRead_any (wd w 1) (wd_size hw 1)) ?_
  refine br (fun hc2 => ?y2) (fun hc2 => ?n2)
  case' y2 =>
   have hp1 : placeOf (wd w 1) = none := by cases hq : placeOf (wd w 1) with | none => rfl | some r => rw [hq] at hc2; exact absurd rfl hc2
   have hP : parseF w = (noField, false) := by unfold parseF; rw [if_neg hl2, hp1]
  case' n2 =>
   obtain ⟨r, hp1⟩ : ∃ r, placeOf (wd w 1) = some r := by cases hq : placeOf (wd w 1) with | none => rw [hq] at hc2; exact absurd hc2 (by decide) | some r => exact ⟨r, rfl⟩
   rw [hp1]
   first | refine x_ix (by first | exact wd_ix (i := 0) rfl (by omega) | exact wd_ix (i := 1) rfl (by omega) | exact wd_ix (i := 2) rfl (by omega) | exact wd_ix (i := 3) rfl (by omega) | exact wd_ix (i := 4) rfl (by omega) | exact wd_ix (i := 5) rfl (by omega)) ?_ | refine x_ixI (by first | exact wd_ix (i := 0) rfl (by omega) | exact wd_ix (i := 1) rfl (by omega) | exact wd_ix (i := 2) rfl (by omega) | exact wd_ix (i := 3) rfl (by omega) | exact wd_ix (i := 4) rfl (by omega) | exact wd_ix (i := 5) rfl (by omega)) ?_
   refine br (fun hg3 => ?y3) (fun hg3 => ?n3)
   case' y3 =>
    have v0 := hg3
    refine x_len ?_
    refine br (fun hc4 => ?y4) (fun hc4 => ?n4)
    case' y4 =>
     first | refine x_ix (by first | exact wd_ix (i := 0) rfl (by omega) | exact wd_ix (i := 1) rfl (by omega) | exact wd_ix (i := 2) rfl (by omega) | exact wd_ix (i := 3) rfl (by omega) | exact wd_ix (i := 4) rfl (by omega) | exact wd_ix (i := 5) rfl (by omega)) ?_ | refine x_ixI (by first | exact wd_ix (i := 0) rfl (by omega) | exact wd_ix (i := 1) rfl (by omega) | exact wd_ix (i := 2) rfl (by omega) | exact wd_ix (i := 3) rfl (by omega) | exact wd_ix (i := 4) rfl (by omega) | exact wd_ix (i := 5) rfl (by omega)) ?_
     refine x_call T.en_116 (numRead_any (wd w 2) (wd_size hw 2)) ?_
    case' n4 =>
     first | refine x_ix (by first | exact wd_ix (i := 0) rfl (by omega) | exact wd_ix (i := 1) rfl (by omega) | exact wd_ix (i := 2) rfl (by omega) | exact wd_ix (i := 3) rfl (by omega) | exact wd_ix (i := 4) rfl (by omega) | exact wd_ix (i := 5) rfl (by omega)) ?_ | refine x_ixI (by first | exact wd_ix (i := 0) rfl (by omega) | exact wd_ix (i := 1) rfl (by omega) | exact wd_ix (i := 2) rfl (by omega) | exact wd_ix (i := 3) rfl (by omega) | exact wd_ix (i := 4) rfl (by omega) | exact wd_ix (i := 5) rfl (by omega)) ?_
     refine br (fun hg5 => ?y5) (fun hg5 => ?n5)
     case' y5 =>
      exact absurd (v0.symm.trans hg5) (by decide +kernel)
     case' n5 =>
      refine brF ?_
      first | refine x_ix (by first | exact wd_ix (i := 0) rfl (by omega) | exact wd_ix (i := 1) rfl (by omega) | exact wd_ix (i := 2) rfl (by omega) | exact wd_ix (i := 3) rfl (by omega) | exact wd_ix (i := 4) rfl (by omega) | exact wd_ix (i := 5) rfl (by omega)) ?_ | refine x_ixI (by first | exact wd_ix (i := 0) rfl (by omega) | exact wd_ix (i := 1) rfl (by omega) | exact wd_ix (i := 2) rfl (by omega) | exact wd_ix (i := 3) rfl (by omega) | exact wd_ix (i := 4) rfl (by omega) | exact wd_ix (i := 5) rfl (by omega)) ?_
      refine br (fun hg7 => ?y7) (fun hg7 => ?n7)
      case' y7 =>
       exact absurd (v0.symm.trans hg7) (by decide +kernel)
      case' n7 =>
       refine brF ?_
       first | refine x_ix (by first | exact wd_ix (i := 0) rfl (by omega) | exact wd_ix (i := 1) rfl (by omega) | exact wd_ix (i := 2) rfl (by omega) | exact wd_ix (i := 3) rfl (by omega) | exact wd_ix (i := 4) rfl (by omega) | exact wd_ix (i := 5) rfl (by omega)) ?_ | refine x_ixI (by first | exact wd_ix (i := 0) rfl (by omega) | exact wd_ix (i := 1) rfl (by omega) | exact wd_ix (i := 2) rfl (by omega) | exact wd_ix (i := 3) rfl (by omega) | exact wd_ix (i := 4) rfl (by omega) | exact wd_ix (i := 5) rfl (by omega)) ?_
       refine br (fun hg9 => ?y9) (fun hg9 => ?n9)
       case' y9 =>
        exact absurd (v0.symm.trans hg9) (by decide +kernel)
       case' n9 =>
        refine brF ?_
   case' n3 =>
    refine brF ?_
    first | refine x_ix (by first | exact wd_ix (i := 0) rfl (by omega) | exact wd_ix (i := 1) rfl (by omega) | exact wd_ix (i := 2) rfl (by omega) | exact wd_ix (i := 3) rfl (by omega) | exact wd_ix (i := 4) rfl (by omega) | exact wd_ix (i := 5) rfl (by omega)) ?_ | refine x_ixI (by first | exact wd_ix (i := 0) rfl (by omega) | exact wd_ix (i := 1) rfl (by omega) | exact wd_ix (i := 2) rfl (by omega) | exact wd_ix (i := 3) rfl (by omega) | exact wd_ix (i := 4) rfl (by omega) | exact wd_ix (i := 5) rfl (by omega)) ?_
    refine br (fun hg12 => ?y12) (fun hg12 => ?n12)
    case' y12 =>
     have v1 := hg12
     refine x_len ?_
     refine br (fun hc13 => ?y13) (fun hc13 => ?n13)
     case' y13 =>
      first | refine x_ix (by first | exact wd_ix (i := 0) rfl (by omega) | exact wd_ix (i := 1) rfl (by omega) | exact wd_ix (i := 2) rfl (by omega) | exact wd_ix (i := 3) rfl (by omega) | exact wd_ix (i := 4) rfl (by omega) | exact wd_ix (i := 5) rfl (by omega)) ?_ | refine x_ixI (by first | exact wd_ix (i := 0) rfl (by omega) | exact wd_ix (i := 1) rfl (by omega) | exact wd_ix (i := 2) rfl (by omega) | exact wd_ix (i := 3) rfl (by omega) | exact wd_ix (i := 4) rfl (by omega) | exact wd_ix (i := 5) rfl (by omega)) ?_
      refine x_call T.en_117 (unquote_c (wd w 2) (wd_size hw 2)) ?_
     case' n13 =>
      first | refine x_ix (by first | exact wd_ix (i := 0) rfl (by omega) | exact wd_ix (i := 1) rfl (by omega) | exact wd_ix (i := 2) rfl (by omega) | exact wd_ix (i := 3) rfl (by omega) | exact wd_ix (i := 4) rfl (by omega) | exact wd_ix (i := 5) rfl (by omega)) ?_ | refine x_ixI (by first | exact wd_ix (i := 0) rfl (by omega) | exact wd_ix (i := 1) rfl (by omega) | exact wd_ix (i := 2) rfl (by omega) | exact wd_ix (i := 3) rfl (by omega) | exact wd_ix (i := 4) rfl (by omega) | exact wd_ix (i := 5) rfl (by omega)) ?_
      refine br (fun hg14 => ?y14) (fun hg14 => ?n14)
      case' y14 =>
       exact absurd (v1.symm.trans hg14) (by decide +kernel)
      case' n14 =>
       refine brF ?_
       first | refine x_ix (by first | exact wd_ix (i := 0) rfl (by omega) | exact wd_ix (i := 1) rfl (by omega) | exact wd_ix (i := 2) rfl (by omega) | exact wd_ix (i := 3) rfl (by omega) | exact wd_ix (i := 4) rfl (by omega) | exact wd_ix (i := 5) rfl (by omega)) ?_ | refine x_ixI (by first | exact wd_ix (i := 0) rfl (by omega) | exact wd_ix (i := 1) rfl (by omega) | exact wd_ix (i := 2) rfl (by omega) | exact wd_ix (i := 3) rfl (by omega) | exact wd_ix (i := 4) rfl (by omega) | exact wd_ix (i := 5) rfl (by omega)) ?_
       refine br (fun hg16 => ?y16) (fun hg16 => ?n16)
       case' y16 =>
        exact absurd (v1.symm.trans hg16) (by decide +kernel)
       case' n16 =>
        refine brF ?_
    case' n12 =>
     refine brF ?_
     first | refine x_ix (by first | exact wd_ix (i := 0) rfl (by omega) | exact wd_ix (i := 1) rfl (by omega) | exact wd_ix (i := 2) rfl (by omega) | exact wd_ix (i := 3) rfl (by omega) | exact wd_ix (i := 4) rfl (by omega) | exact wd_ix (i := 5) rfl (by omega)) ?_ | refine x_ixI (by first | exact wd_ix (i := 0) rfl (by omega) | exact wd_ix (i := 1) rfl (by omega) | exact wd_ix (i := 2) rfl (by omega) | exact wd_ix (i := 3) rfl (by omega) | exact wd_ix (i := 4) rfl (by omega) | exact wd_ix (i := 5) rfl (by omega)) ?_
     refine br (fun hg19 => ?y19) (fun hg19 => ?n19)
     case' y19 =>
      have v2 := hg19
      refine x_len ?_
      refine br (fun hc20 => ?y20) (fun hc20 => ?n20)
      case' y20 =>
       first | refine x_ix (by first | exact wd_ix (i := 0) rfl (by omega) | exact wd_ix (i := 1) rfl (by omega) | exact wd_ix (i := 2) rfl (by omega) | exact wd_ix (i := 3) rfl (by omega) | exact wd_ix (i := 4) rfl (by omega) | exact wd_ix (i := 5) rfl (by omega)) ?_ | refine x_ixI (by first | exact wd_ix (i := 0) rfl (by omega) | exact wd_ix (i := 1) rfl (by omega) | exact wd_ix (i := 2) rfl (by omega) | exact wd_ix (i := 3) rfl (by omega) | exact wd_ix (i := 4) rfl (by omega) | exact wd_ix (i := 5) rfl (by omega)) ?_
       first | refine x_ix (by first | exact wd_ix (i := 0) rfl (by omega) | exact wd_ix (i := 1) rfl (by omega) | exact wd_ix (i := 2) rfl (by omega) | exact wd_ix (i := 3) rfl (by omega) | exact wd_ix (i := 4) rfl (by omega) | exact wd_ix (i := 5) rfl (by omega)) ?_ | refine x_ixI (by first | exact wd_ix (i := 0) rfl (by omega) | exact wd_ix (i := 1) rfl (by omega) | exact wd_ix (i := 2) rfl (by omega) | exact wd_ix (i := 3) rfl (by omega) | exact wd_ix (i := 4) rfl (by omega) | exact wd_ix (i := 5) rfl (by omega)) ?_
       refine x_call T.en_122 (split1_any 44 (wd w 3) (wd_size hw 3)) ?_
      case' n20 =>
       first | refine x_ix (by first | exact wd_ix (i := 0) rfl (by omega) | exact wd_ix (i := 1) rfl (by omega) | exact wd_ix (i := 2) rfl (by omega) | exact wd_ix (i := 3) rfl (by omega) | exact wd_ix (i := 4) rfl (by omega) | exact wd_ix (i := 5) rfl (by omega)) ?_ | refine x_ixI (by first | exact wd_ix (i := 0) rfl (by omega) | exact wd_ix (i := 1) rfl (by omega) | exact wd_ix (i := 2) rfl (by omega) | exact wd_ix (i := 3) rfl (by omega) | exact wd_ix (i := 4) rfl (by omega) | exact wd_ix (i := 5) rfl (by omega)) ?_
       refine br (fun hg21 => ?y21) (fun hg21 => ?n21)
       case' y21 =>
        exact absurd (v2.symm.trans hg21) (by decide +kernel)
       case' n21 =>
        refine brF ?_
     case' n19 =>
      refine brF ?_
      first | refine x_ix (by first | exact wd_ix (i := 0) rfl (by omega) | exact wd_ix (i := 1) rfl (by omega) | exact wd_ix (i := 2) rfl (by omega) | exact wd_ix (i := 3) rfl (by omega) | exact wd_ix (i := 4) rfl (by omega) | exact wd_ix (i := 5) rfl (by omega)) ?_ | refine x_ixI (by first | exact wd_ix (i := 0) rfl (by omega) | exact wd_ix (i := 1) rfl (by omega) | exact wd_ix (i := 2) rfl (by omega) | exact wd_ix (i := 3) rfl (by omega) | exact wd_ix (i := 4) rfl (by omega) | exact wd_ix (i := 5) rfl (by omega)) ?_
      refine br (fun hg24 => ?y24) (fun hg24 => ?n24)
      case' y24 =>
       have v3 := hg24
       refine x_len ?_
       refine br (fun hc25 => ?y25) (fun hc25 => ?n25)
      case' n24 =>
       refine brF ?_
 all_goals (refine x_ret ?_; simp only [fitsL, fits, C.asD, and_true] <;> (first | (rw [hP]; (first | (constructor <;> rfl) | rfl)) | (unfold parseF; rw [if_neg hl2, hp1]; dsimp only; (repeat (first | rw [if_pos (And.intro (by assumption) (by omega))] | rw [if_neg (fun k => by have := k.1; have := k.2; first | omega | contradiction)])); constructor <;> rfl)))
end Go.Vm
end
section
namespace Go.Vm
open Go.RowKit Go.Proofs
set_option linter.unusedVariables false
set_option linter.unusedSimpArgs false
set_option maxRecDepth 10000

open Go.Proofs.YtmmffeldlhofiaaGreatDoor Punnet.Name Punnet.Num

theorem splitC_len {c : UInt8} : ∀ {l w : List UInt8}, w ∈ splitC c l → w.length ≤ l.length
  | [], w, h => by simp [splitC] at h; rw [h]; simp
  | b :: l, w, h => by
    unfold splitC at h
    split at h
    · rcases List.mem_cons.1 h with rfl | h
      · simp
      · have := splitC_len h; simp only [List.length_cons]; omega
    · cases hs : splitC c l with
      | nil => rw [hs] at h; simp at h; rw [h]; simp
      | cons v vs =>
        rw [hs] at h
        have ih : ∀ u ∈ v :: vs, u.length ≤ l.length := fun u hu => splitC_len (c := c) (by rw [hs]; exact hu)
        rcases List.mem_cons.1 h with rfl | h
        · have := ih v (List.mem_cons_self ..); simp only [List.length_cons]; omega
        · have := ih w (List.mem_cons_of_mem _ h); simp only [List.length_cons]; omega
theorem splitC_num {c : UInt8} : ∀ l : List UInt8, (splitC c l).length ≤ l.length + 1
  | [] => by simp [splitC]
  | b :: l => by
    have ih := splitC_num (c := c) l
    unfold splitC
    split
    · simp only [List.length_cons]; omega
    · cases hs : splitC c l with
      | nil => simp
      | cons v vs => rw [hs] at ih; simp only [List.length_cons] at *; omega
theorem splitW_size {c : UInt8} {s w : ByteArray} (h : w ∈ splitW c s) : w.size ≤ s.size := by
  unfold splitW at h
  obtain ⟨l, hl, rfl⟩ := List.mem_map.1 h
  have := splitC_len hl
  rw [← ba_len, mkB_data, ← ba_len s]; exact this
theorem splitW_len {c : UInt8} {s : ByteArray} (h : s.size ≤ 1000000) : (splitW c s).length ≤ 1000001 := by
  unfold splitW
  rw [List.length_map]
  have := splitC_num (c := c) s.data.toList
  rw [ba_len] at this
  omega
theorem cut_flag (c : UInt8) (p : ByteArray) : (cutC c p.data.toList).2.2 = if c ∈ p.data.toList then true else false := by
  unfold cutC; split <;> rfl
def pcs (l : List ByteArray) (k : Nat) : List (ByteArray × ByteArray) := (l.take k).map pairOf
theorem pcs_take {l : List ByteArray} {k : Nat} {p : ByteArray} (hp : l[k]? = some p) : (pcs l (k + 1)).map pairD = (pcs l k).map pairD ++ [pairD (pairOf p)] := by
  unfold pcs
  rw [List.take_add_one, hp]; simp
theorem take_all {l : List ByteArray} {k : Nat} {p : ByteArray} {Q : ByteArray → Prop} (hi : ∀ p ∈ l.take k, Q p) (hp : l[k]? = some p) (h : Q p) : ∀ p ∈ l.take (k + 1), Q p := by
  rw [List.take_add_one, hp]
  intro q hq
  rcases List.mem_append.1 hq with hq | hq
  · exact hi q hq
  · simp at hq; rw [hq]; exact h
set_option maxHeartbeats 1000000 in
theorem skKind_any (v : ByteArray) : Contract Tryz.prog 114 [.sc (.string (v))] [.d (.sc (.int .i64 ((kindOf v).1))), .d (.sc (.int .i64 ((kindOf v).2)))] := by
 refine T.fn [] Tryz.func114 ?_
 refine br (fun hc1 => ?y1) (fun hc1 => ?n1)
 case' n1 =>
  refine br (fun hc2 => ?y2) (fun hc2 => ?n2)
  case' n2 =>
   refine br (fun hc3 => ?y3) (fun hc3 => ?n3)
   case' n3 =>
    refine br (fun hc4 => ?y4) (fun hc4 => ?n4)
    case' n4 =>
     refine br (fun hc5 => ?y5) (fun hc5 => ?n5)
     case' n5 =>
      refine br (fun hc6 => ?y6) (fun hc6 => ?n6)
      case' n6 =>
       refine br (fun hc7 => ?y7) (fun hc7 => ?n7)
       case' n7 =>
        refine br (fun hc8 => ?y8) (fun hc8 => ?n8)
        case' n8 =>
         refine br (fun hc9 => ?y9) (fun hc9 => ?n9)
         case' n9 =>
          refine br (fun hc10 => ?y10) (fun hc10 => ?n10)
 all_goals (refine x_ret ?_; simp only [fitsL, fits, C.asD, and_true] <;> (unfold kindOf; (repeat (first | rw [if_pos (by assumption)] | rw [if_neg (by assumption)])); constructor <;> rfl))

set_option maxHeartbeats 1000000 in
theorem parsePairs_any (s : ByteArray) (hs : s.size ≤ 1000000) : Contract Tryz.prog 118 [.sc (.string (s))] [.d (.row ((parsePs (splitW 44 s)).1.map pairD)), .d (.sc (.bool ((parsePs (splitW 44 s)).2)))] := by
 refine T.fn [] Tryz.func118 ?_
 have hln := splitW_len (c := 44) hs
 refine x_call T.en_122 (split1_any 44 s hs) ?_
 refine x_len ?_
 refine xnil 4 500004 131 rfl (by decide) (by decide +kernel) ?_
 refine xloopR (fb := []) T.ok (Nat.le_of_ble_eq_true rfl) [11, 12] (fun (k : Nat) => [(13, .c (.d (.sc (.int .i64 (k : Nat))))), (4, .c (.own 500004 131 ((pcs (splitW 44 s) k).map pairD)))]) (fun k => k ≤ (splitW 44 s).length ∧ ∀ p ∈ (splitW 44 s).take k, (62 : UInt8) ∈ p.data.toList) (fun k => (splitW 44 s).length - k) 0 ⟨Nat.zero_le _, (by simp)⟩ (x_ent (by first | rfl | (simp only [Tr.get]; simp; done)) (x_ent (by first | rfl | (simp only [Tr.get]; simp; done)) trivial)) ?_
 rintro k ⟨hk, hi⟩
 refine br (fun hc1 => ?y1) (fun hc1 => ?n1)
 case' y1 =>
  obtain ⟨p, hp⟩ := elem_at hc1
  have hkl := lt_len hp
  have hps := Nat.le_trans (splitW_size (List.mem_of_getElem? hp)) hs
  have hcut := cut_flag 62 p
  first | refine x_ix (by exact mapAt hp) ?_ | refine x_ixI (by exact mapAt hp) ?_
  refine x_call T.en_136 (cut1_any 62 p hps) ?_
  refine br (fun hc2 => ?y2) (fun hc2 => ?n2)
  case' y2 =>
   have hcc : ¬ (62 : UInt8) ∈ p.data.toList := by intro q; rw [if_pos q] at hcut; simp_all
   have hP : parsePs (splitW 44 s) = ([], false) := by unfold parsePs; rw [if_neg]; rw [List.all_eq_true]; intro q; exact hcc (of_decide_eq_true (q p (List.mem_of_getElem? hp)))
  case' n2 =>
   have hcc : (62 : UInt8) ∈ p.data.toList := by refine Decidable.byContradiction fun q => ?_; rw [if_neg q] at hcut; simp_all
   first | refine x_app ?_ (by first | exact strsl_wide _ | (intro x hx; rcases List.mem_singleton.1 hx with rfl; rfl)) (h1 := by unfold maxLen; ((try simp only [List.length_map, List.length_append, List.length_cons, List.length_nil, List.length_take, pcs]); omega)) (h2 := by ((try simp only [List.length_map, List.length_append, List.length_cons, List.length_nil, List.length_take, pcs]); omega)) | refine x_appN ?_ (by first | exact strsl_wide _ | (intro x hx; rcases List.mem_singleton.1 hx with rfl; rfl)) (h1 := by unfold maxLen; ((try simp only [List.length_map, List.length_append, List.length_cons, List.length_nil, List.length_take, pcs]); omega)) (h2 := by ((try simp only [List.length_map, List.length_append, List.length_cons, List.length_nil, List.length_take, pcs]); omega))
   first | refine x_inc ?_ (h := by ((try simp only [List.length_map, List.length_append, List.length_cons, List.length_nil, List.length_take, pcs]); omega)) | refine x_add ?_ (h := by first | exact IntWalk.i64_in _ (by ((try simp only [List.length_map, List.length_append, List.length_cons, List.length_nil, List.length_take, pcs]); omega)) | rfl) | refine x_bin rfl rfl ?_
   refine x_rnd (k + 1) ⟨lt_len hp, (take_all hi hp hcc)⟩ (by (try dsimp only); have := lt_len hp; omega) rfl (x_ent (by first | rfl | (simp only [Tr.get]; simp; done)) (x_ent (by simp only [Tr.get]; first | (rw [pcs_take hp]; done) | (rw [pcs_take hp]; rfl)) trivial)) rfl
 case' n1 =>
  have hend : (splitW 44 s).take k = (splitW 44 s) := List.take_of_length_le (past_end hc1)
  have hP : parsePs (splitW 44 s) = ((splitW 44 s).map pairOf, true) := by unfold parsePs; rw [if_pos]; rw [List.all_eq_true]; rw [hend] at hi; exact fun p hp => decide_eq_true (hi p hp)
 all_goals (refine x_ret ?_; simp only [fitsL, fits, C.asD, and_true] <;> (rw [hP]; (try unfold pcs; try rw [hend]); (first | (constructor <;> rfl) | rfl)))
end Go.Vm
end
section
namespace Go.Vm
open Go.RowKit Go.Proofs
set_option linter.unusedVariables false
set_option linter.unusedSimpArgs false
set_option maxRecDepth 10000

open Go.Proofs.YtmmffeldlhofiaaGreatDoor Punnet.Name Punnet.Num

theorem words_tl {w : List ByteArray} {n : Nat} : ((w.map strD).take (w.map strD).length).drop n = (w.drop n).map strD := by rw [List.take_length, List.map_drop]
theorem kindOf_count {v : ByteArray} : ((kindOf v).1 = 1 → (kindOf v).2 = 3) ∧ ((kindOf v).1 = 4 → (kindOf v).2 = 2) ∧ ((kindOf v).1 = 5 → (kindOf v).2 = 3) ∧ ((kindOf v).1 = 6 → (kindOf v).2 = 5) ∧ ((kindOf v).1 = 9 → (kindOf v).2 = 5) ∧ ((kindOf v).1 = 7 → (kindOf v).2 = 3) ∧ ((kindOf v).1 = 10 → (kindOf v).2 = 3) ∧ ((kindOf v).1 = 8 → (kindOf v).2 = 6) ∧ (¬ (kindOf v).1 = 0 → ¬ (kindOf v).1 = 2 → ¬ (kindOf v).1 = 3 → 2 ≤ (kindOf v).2) := by
  unfold kindOf
  (repeat' split) <;> simp

set_option maxHeartbeats 1000000 in
theorem parseLens_any (w : List ByteArray) (hwl : w.length ≤ 1000001) (hw : ∀ a ∈ w, a.size ≤ 1000000) : Contract Tryz.prog 66 [.row (w.map strD)] [.d (lD (parseL w).1), .d (.sc (.bool ((parseL w).2)))] := by
 refine T.fn [] Tryz.func66 ?_
 refine xscopeR (fb := []) T.ok (Nat.le_of_ble_eq_true rfl) [0] (fun (x : LensD × Bool) => 0) (fun _ => [2]) (fun (x : LensD × Bool) => [(4, .box (lD x.1).cells), (6, .c (.d (.sc (.bool x.2))))]) (fun (x : LensD × Bool) => parseL w = x) (fun (x : LensD × Bool) => 0) (fun z _ => by rfl) (by repeat (first | exact trivial | refine And.intro (fun _ => rfl) ?_)) (fun z _ => by (repeat (first | exact trivial | refine And.intro (fun _ => rfl) ?_))) ?p1 ?f1
 case' p1 =>
  rintro x hP
 case' f1 =>
  skip
  refine x_len ?_
  refine br (fun hc1 => ?y1) (fun hc1 => ?n1)
  case' y1 =>
   have hP : parseL w = (noLens, false) := by unfold parseL; rw [if_pos (by omega)]
  case' n1 =>
   have hl0 : ¬ w.length = 0 := by omega
   first | refine x_ix (by first | exact wd_ix (i := 0) rfl (by first | omega) | exact wd_ix (i := 1) rfl (by first | omega) | exact wd_ix (i := 2) rfl (by first | omega) | exact wd_ix (i := 3) rfl (by first | omega) | exact wd_ix (i := 4) rfl (by first | omega) | exact wd_ix (i := 5) rfl (by first | omega)) ?_ | refine x_ixI (by first | exact wd_ix (i := 0) rfl (by first | omega) | exact wd_ix (i := 1) rfl (by first | omega) | exact wd_ix (i := 2) rfl (by first | omega) | exact wd_ix (i := 3) rfl (by first | omega) | exact wd_ix (i := 4) rfl (by first | omega) | exact wd_ix (i := 5) rfl (by first | omega)) ?_
   refine x_call T.en_114 (skKind_any _) ?_
   refine br (fun hc2 => ?y2) (fun hc2 => ?n2)
   case' y2 =>
    have hk0 : (kindOf (wd w 0)).1 = 0 := by simpa using hc2
    have hP : parseL w = (⟨(kindOf (wd w 0)).1, noRef, noB, noB, 0, noField, [], []⟩, false) := by unfold parseL; rw [if_neg hl0, if_pos hk0, hk0]; rfl
    refine x_jmp _ hP rfl trivial rfl (x_ent (by first | rfl | (simp only [Tr.get]; done) | (simp only [Tr.get]; simp_all; done)) (x_ent (by first | rfl | (simp only [Tr.get]; done) | (simp only [Tr.get]; simp_all; done)) trivial)) rfl
   case' n2 =>
    have hk0 : ¬ (kindOf (wd w 0)).1 = 0 := by simpa using hc2
    refine br (fun hg3 => ?y3) (fun hg3 => ?n3)
    case' y3 =>
     have hk2 : (kindOf (wd w 0)).1 = 2 := hg3
     have hP : parseL w = (⟨(kindOf (wd w 0)).1, noRef, noB, noB, 0, (parseF (w.drop 1)).1, [], []⟩, (parseF (w.drop 1)).2) := by unfold parseL; (repeat (first | rw [if_pos (by omega)] | rw [if_neg (by omega)] | (rw [hp1]; try dsimp only)))
     refine brT ?_
     first | refine x_bnd ?_ | refine x_bndI ?_
     refine x_row ?_ (by first | exact str1_wide | exact strsl_wide _ | (intro x hx; cases hx)) (h1 := by ((try simp only [List.length_map]); omega)) (h2 := by ((try simp only [List.length_map]); omega)) (hy := by first | exact words_tl | exact rfl | rfl)
     refine x_call T.en_76 (parseField_any (w.drop 1) (fun a ha => hw a (List.mem_of_mem_drop ha))) ?_
     refine x_jmp _ hP rfl trivial rfl (x_ent (by first | rfl | (simp only [Tr.get]; done) | (simp only [Tr.get]; simp_all; done)) (x_ent (by first | rfl | (simp only [Tr.get]; done) | (simp only [Tr.get]; simp_all; done)) trivial)) rfl
    case' n3 =>
     have hk2 : ¬ (kindOf (wd w 0)).1 = 2 := hg3
     refine br (fun hc5 => ?y5) (fun hc5 => ?n5)
     case' y5 =>
      have hk3 : (kindOf (wd w 0)).1 = 3 := hc5
      have hP : parseL w = (⟨(kindOf (wd w 0)).1, noRef, noB, noB, 0, (parseF (w.drop 1)).1, [], []⟩, (parseF (w.drop 1)).2) := by unfold parseL; (repeat (first | rw [if_pos (by omega)] | rw [if_neg (by omega)] | (rw [hp1]; try dsimp only)))
      first | refine x_bnd ?_ | refine x_bndI ?_
      refine x_row ?_ (by first | exact str1_wide | exact strsl_wide _ | (intro x hx; cases hx)) (h1 := by ((try simp only [List.length_map]); omega)) (h2 := by ((try simp only [List.length_map]); omega)) (hy := by first | exact words_tl | exact rfl | rfl)
      refine x_call T.en_76 (parseField_any (w.drop 1) (fun a ha => hw a (List.mem_of_mem_drop ha))) ?_
      refine x_jmp _ hP rfl trivial rfl (x_ent (by first | rfl | (simp only [Tr.get]; done) | (simp only [Tr.get]; simp_all; done)) (x_ent (by first | rfl | (simp only [Tr.get]; done) | (simp only [Tr.get]; simp_all; done)) trivial)) rfl
     case' n5 =>
      have hk3 : ¬ (kindOf (wd w 0)).1 = 3 := hc5
      refine x_len ?_
      refine br (fun hc6 => ?y6) (fun hc6 => ?n6)
      case' y6 =>
       have hlm : (w.length : Int) = (kindOf (wd w 0)).2 := hc6
       have hkc := kindOf_count (v := wd w 0)
       first | refine x_ix (by first | exact wd_ix (i := 0) rfl (by first | omega) | exact wd_ix (i := 1) rfl (by first | omega) | exact wd_ix (i := 2) rfl (by first | omega) | exact wd_ix (i := 3) rfl (by first | omega) | exact wd_ix (i := 4) rfl (by first | omega) | exact wd_ix (i := 5) rfl (by first | omega)) ?_ | refine x_ixI (by first | exact wd_ix (i := 0) rfl (by first | omega) | exact wd_ix (i := 1) rfl (by first | omega) | exact wd_ix (i := 2) rfl (by first | omega) | exact wd_ix (i := 3) rfl (by first | omega) | exact wd_ix (i := 4) rfl (by first | omega) | exact wd_ix (i := 5) rfl (by first | omega)) ?_
       refine x_call T.en_115 (fieldRead_any (wd w 1) (wd_size hw 1)) ?_
       refine br (fun hc7 => ?y7) (fun hc7 => ?n7)
       case' y7 =>
        have hp1 : placeOf (wd w 1) = none := by cases hq : placeOf (wd w 1) with | none => rfl | some r => rw [hq] at hc7; simp at hc7
        rw [hp1]
        have hP : parseL w = (⟨(kindOf (wd w 0)).1, noRef, noB, noB, 0, noField, [], []⟩, false) := by unfold parseL; (repeat (first | rw [if_pos (by omega)] | rw [if_neg (by omega)] | (rw [hp1]; try dsimp only)))
        refine x_jmp _ hP rfl trivial rfl (x_ent (by first | rfl | (simp only [Tr.get]; done) | (simp only [Tr.get]; simp_all; done)) (x_ent (by first | rfl | (simp only [Tr.get]; done) | (simp only [Tr.get]; simp_all; done)) trivial)) rfl
       case' n7 =>
        obtain ⟨r, hp1⟩ : ∃ r, placeOf (wd w 1) = some r := by cases hq : placeOf (wd w 1) with | none => rw [hq] at hc7; simp at hc7 | some r => exact ⟨r, rfl⟩
        rw [hp1]
        refine br (fun hc8 => ?y8) (fun hc8 => ?n8)
        case' y8 =>
         have hP : parseL w = (⟨(kindOf (wd w 0)).1, r, wd w 2, noB, 0, noField, [], []⟩, true) := by unfold parseL; (repeat (first | rw [if_pos (by omega)] | rw [if_neg (by omega)] | (rw [hp1]; try dsimp only)))
         refine brT ?_
         have hP : parseL w = (⟨(kindOf (wd w 0)).1, r, wd w 2, noB, 0, noField, [], []⟩, true) := by unfold parseL; (repeat (first | rw [if_pos (by omega)] | rw [if_neg (by omega)] | (rw [hp1]; try dsimp only)))
         first | refine x_ix (by first | exact wd_ix (i := 0) rfl (by first | omega) | exact wd_ix (i := 1) rfl (by first | omega) | exact wd_ix (i := 2) rfl (by first | omega) | exact wd_ix (i := 3) rfl (by first | omega) | exact wd_ix (i := 4) rfl (by first | omega) | exact wd_ix (i := 5) rfl (by first | omega)) ?_ | refine x_ixI (by first | exact wd_ix (i := 0) rfl (by first | omega) | exact wd_ix (i := 1) rfl (by first | omega) | exact wd_ix (i := 2) rfl (by first | omega) | exact wd_ix (i := 3) rfl (by first | omega) | exact wd_ix (i := 4) rfl (by first | omega) | exact wd_ix (i := 5) rfl (by first | omega)) ?_
         refine x_jmp _ hP rfl trivial rfl (x_ent (by first | rfl | (simp only [Tr.get]; done) | (simp only [Tr.get]; simp_all; done)) (x_ent (by first | rfl | (simp only [Tr.get]; done) | (simp only [Tr.get]; simp_all; done)) trivial)) rfl
        case' n8 =>
         refine br (fun hc10 => ?y10) (fun hc10 => ?n10)
         case' y10 =>
          have hP : parseL w = (⟨(kindOf (wd w 0)).1, r, wd w 2, noB, 0, noField, [], []⟩, true) := by unfold parseL; (repeat (first | rw [if_pos (by omega)] | rw [if_neg (by omega)] | (rw [hp1]; try dsimp only)))
          first | refine x_ix (by first | exact wd_ix (i := 0) rfl (by first | omega) | exact wd_ix (i := 1) rfl (by first | omega) | exact wd_ix (i := 2) rfl (by first | omega) | exact wd_ix (i := 3) rfl (by first | omega) | exact wd_ix (i := 4) rfl (by first | omega) | exact wd_ix (i := 5) rfl (by first | omega)) ?_ | refine x_ixI (by first | exact wd_ix (i := 0) rfl (by first | omega) | exact wd_ix (i := 1) rfl (by first | omega) | exact wd_ix (i := 2) rfl (by first | omega) | exact wd_ix (i := 3) rfl (by first | omega) | exact wd_ix (i := 4) rfl (by first | omega) | exact wd_ix (i := 5) rfl (by first | omega)) ?_
          refine x_jmp _ hP rfl trivial rfl (x_ent (by first | rfl | (simp only [Tr.get]; done) | (simp only [Tr.get]; simp_all; done)) (x_ent (by first | rfl | (simp only [Tr.get]; done) | (simp only [Tr.get]; simp_all; done)) trivial)) rfl
         case' n10 =>
          refine br (fun hc11 => ?y11) (fun hc11 => ?n11)
          case' y11 =>
           have hP : parseL w = (⟨(kindOf (wd w 0)).1, r, wd w 2, wd w 3, (numW (wd w 4)).1, noField, [], []⟩, decide ((numW (wd w 4)).2 = 0)) := by unfold parseL; (repeat (first | rw [if_pos (by omega)] | rw [if_neg (by omega)] | (rw [hp1]; try dsimp only)))
           refine brT ?_
           have hP : parseL w = (⟨(kindOf (wd w 0)).1, r, wd w 2, wd w 3, (numW (wd w 4)).1, noField, [], []⟩, decide ((numW (wd w 4)).2 = 0)) := by unfold parseL; (repeat (first | rw [if_pos (by omega)] | rw [if_neg (by omega)] | (rw [hp1]; try dsimp only)))
           refine And.intro ⟨T.mixed, by decide +kernel⟩ ?_
           first | refine x_ix (by first | exact wd_ix (i := 0) rfl (by first | omega) | exact wd_ix (i := 1) rfl (by first | omega) | exact wd_ix (i := 2) rfl (by first | omega) | exact wd_ix (i := 3) rfl (by first | omega) | exact wd_ix (i := 4) rfl (by first | omega) | exact wd_ix (i := 5) rfl (by first | omega)) ?_ | refine x_ixI (by first | exact wd_ix (i := 0) rfl (by first | omega) | exact wd_ix (i := 1) rfl (by first | omega) | exact wd_ix (i := 2) rfl (by first | omega) | exact wd_ix (i := 3) rfl (by first | omega) | exact wd_ix (i := 4) rfl (by first | omega) | exact wd_ix (i := 5) rfl (by first | omega)) ?_
           first | refine x_ix (by first | exact wd_ix (i := 0) rfl (by first | omega) | exact wd_ix (i := 1) rfl (by first | omega) | exact wd_ix (i := 2) rfl (by first | omega) | exact wd_ix (i := 3) rfl (by first | omega) | exact wd_ix (i := 4) rfl (by first | omega) | exact wd_ix (i := 5) rfl (by first | omega)) ?_ | refine x_ixI (by first | exact wd_ix (i := 0) rfl (by first | omega) | exact wd_ix (i := 1) rfl (by first | omega) | exact wd_ix (i := 2) rfl (by first | omega) | exact wd_ix (i := 3) rfl (by first | omega) | exact wd_ix (i := 4) rfl (by first | omega) | exact wd_ix (i := 5) rfl (by first | omega)) ?_
           first | refine x_ix (by first | exact wd_ix (i := 0) rfl (by first | omega) | exact wd_ix (i := 1) rfl (by first | omega) | exact wd_ix (i := 2) rfl (by first | omega) | exact wd_ix (i := 3) rfl (by first | omega) | exact wd_ix (i := 4) rfl (by first | omega) | exact wd_ix (i := 5) rfl (by first | omega)) ?_ | refine x_ixI (by first | exact wd_ix (i := 0) rfl (by first | omega) | exact wd_ix (i := 1) rfl (by first | omega) | exact wd_ix (i := 2) rfl (by first | omega) | exact wd_ix (i := 3) rfl (by first | omega) | exact wd_ix (i := 4) rfl (by first | omega) | exact wd_ix (i := 5) rfl (by first | omega)) ?_
           refine x_call T.en_116 (numRead_any (wd w 4) (wd_size hw 4)) ?_
           refine x_jmp _ hP rfl trivial rfl (x_ent (by first | rfl | (simp only [Tr.get]; done) | (simp only [Tr.get]; simp_all; done)) (x_ent (by first | rfl | (simp only [Tr.get]; done) | (simp only [Tr.get]; simp_all; done)) trivial)) rfl
          case' n11 =>
           refine br (fun hc13 => ?y13) (fun hc13 => ?n13)
           case' y13 =>
            have hP : parseL w = (⟨(kindOf (wd w 0)).1, r, wd w 2, wd w 3, (numW (wd w 4)).1, noField, [], []⟩, decide ((numW (wd w 4)).2 = 0)) := by unfold parseL; (repeat (first | rw [if_pos (by omega)] | rw [if_neg (by omega)] | (rw [hp1]; try dsimp only)))
            refine And.intro ⟨T.mixed, by decide +kernel⟩ ?_
            first | refine x_ix (by first | exact wd_ix (i := 0) rfl (by first | omega) | exact wd_ix (i := 1) rfl (by first | omega) | exact wd_ix (i := 2) rfl (by first | omega) | exact wd_ix (i := 3) rfl (by first | omega) | exact wd_ix (i := 4) rfl (by first | omega) | exact wd_ix (i := 5) rfl (by first | omega)) ?_ | refine x_ixI (by first | exact wd_ix (i := 0) rfl (by first | omega) | exact wd_ix (i := 1) rfl (by first | omega) | exact wd_ix (i := 2) rfl (by first | omega) | exact wd_ix (i := 3) rfl (by first | omega) | exact wd_ix (i := 4) rfl (by first | omega) | exact wd_ix (i := 5) rfl (by first | omega)) ?_
            first | refine x_ix (by first | exact wd_ix (i := 0) rfl (by first | omega) | exact wd_ix (i := 1) rfl (by first | omega) | exact wd_ix (i := 2) rfl (by first | omega) | exact wd_ix (i := 3) rfl (by first | omega) | exact wd_ix (i := 4) rfl (by first | omega) | exact wd_ix (i := 5) rfl (by first | omega)) ?_ | refine x_ixI (by first | exact wd_ix (i := 0) rfl (by first | omega) | exact wd_ix (i := 1) rfl (by first | omega) | exact wd_ix (i := 2) rfl (by first | omega) | exact wd_ix (i := 3) rfl (by first | omega) | exact wd_ix (i := 4) rfl (by first | omega) | exact wd_ix (i := 5) rfl (by first | omega)) ?_
            first | refine x_ix (by first | exact wd_ix (i := 0) rfl (by first | omega) | exact wd_ix (i := 1) rfl (by first | omega) | exact wd_ix (i := 2) rfl (by first | omega) | exact wd_ix (i := 3) rfl (by first | omega) | exact wd_ix (i := 4) rfl (by first | omega) | exact wd_ix (i := 5) rfl (by first | omega)) ?_ | refine x_ixI (by first | exact wd_ix (i := 0) rfl (by first | omega) | exact wd_ix (i := 1) rfl (by first | omega) | exact wd_ix (i := 2) rfl (by first | omega) | exact wd_ix (i := 3) rfl (by first | omega) | exact wd_ix (i := 4) rfl (by first | omega) | exact wd_ix (i := 5) rfl (by first | omega)) ?_
            refine x_call T.en_116 (numRead_any (wd w 4) (wd_size hw 4)) ?_
            refine x_jmp _ hP rfl trivial rfl (x_ent (by first | rfl | (simp only [Tr.get]; done) | (simp only [Tr.get]; simp_all; done)) (x_ent (by first | rfl | (simp only [Tr.get]; done) | (simp only [Tr.get]; simp_all; done)) trivial)) rfl
           case' n13 =>
            refine br (fun hc14 => ?y14) (fun hc14 => ?n14)
            case' y14 =>
             have hP : parseL w = (⟨(kindOf (wd w 0)).1, r, noB, (unquoteOf (wd w 2)).1, 0, noField, [], []⟩, decide ((unquoteOf (wd w 2)).2 = 0)) := by unfold parseL; (repeat (first | rw [if_pos (by omega)] | rw [if_neg (by omega)] | (rw [hp1]; try dsimp only)))
             refine brT ?_
             have hP : parseL w = (⟨(kindOf (wd w 0)).1, r, noB, (unquoteOf (wd w 2)).1, 0, noField, [], []⟩, decide ((unquoteOf (wd w 2)).2 = 0)) := by unfold parseL; (repeat (first | rw [if_pos (by omega)] | rw [if_neg (by omega)] | (rw [hp1]; try dsimp only)))
             first | refine x_ix (by first | exact wd_ix (i := 0) rfl (by first | omega) | exact wd_ix (i := 1) rfl (by first | omega) | exact wd_ix (i := 2) rfl (by first | omega) | exact wd_ix (i := 3) rfl (by first | omega) | exact wd_ix (i := 4) rfl (by first | omega) | exact wd_ix (i := 5) rfl (by first | omega)) ?_ | refine x_ixI (by first | exact wd_ix (i := 0) rfl (by first | omega) | exact wd_ix (i := 1) rfl (by first | omega) | exact wd_ix (i := 2) rfl (by first | omega) | exact wd_ix (i := 3) rfl (by first | omega) | exact wd_ix (i := 4) rfl (by first | omega) | exact wd_ix (i := 5) rfl (by first | omega)) ?_
             refine x_call T.en_117 (unquote_c (wd w 2) (wd_size hw 2)) ?_
             refine x_jmp _ hP rfl trivial rfl (x_ent (by first | rfl | (simp only [Tr.get]; done) | (simp only [Tr.get]; simp_all; done)) (x_ent (by first | rfl | (simp only [Tr.get]; done) | (simp only [Tr.get]; simp_all; done)) trivial)) rfl
            case' n14 =>
             refine br (fun hc16 => ?y16) (fun hc16 => ?n16)
             case' y16 =>
              have hP : parseL w = (⟨(kindOf (wd w 0)).1, r, noB, (unquoteOf (wd w 2)).1, 0, noField, [], []⟩, decide ((unquoteOf (wd w 2)).2 = 0)) := by unfold parseL; (repeat (first | rw [if_pos (by omega)] | rw [if_neg (by omega)] | (rw [hp1]; try dsimp only)))
              first | refine x_ix (by first | exact wd_ix (i := 0) rfl (by first | omega) | exact wd_ix (i := 1) rfl (by first | omega) | exact wd_ix (i := 2) rfl (by first | omega) | exact wd_ix (i := 3) rfl (by first | omega) | exact wd_ix (i := 4) rfl (by first | omega) | exact wd_ix (i := 5) rfl (by first | omega)) ?_ | refine x_ixI (by first | exact wd_ix (i := 0) rfl (by first | omega) | exact wd_ix (i := 1) rfl (by first | omega) | exact wd_ix (i := 2) rfl (by first | omega) | exact wd_ix (i := 3) rfl (by first | omega) | exact wd_ix (i := 4) rfl (by first | omega) | exact wd_ix (i := 5) rfl (by first | omega)) ?_
              refine x_call T.en_117 (unquote_c (wd w 2) (wd_size hw 2)) ?_
              refine x_jmp _ hP rfl trivial rfl (x_ent (by first | rfl | (simp only [Tr.get]; done) | (simp only [Tr.get]; simp_all; done)) (x_ent (by first | rfl | (simp only [Tr.get]; done) | (simp only [Tr.get]; simp_all; done)) trivial)) rfl
             case' n16 =>
              refine br (fun hc17 => ?y17) (fun hc17 => ?n17)
              case' y17 =>
               have hP : parseL w = (⟨(kindOf (wd w 0)).1, r, wd w 2, wd w 3, 0, noField, (parsePs (splitW 44 (wd w 4))).1, (parsePs (splitW 44 (wd w 5))).1⟩, (parsePs (splitW 44 (wd w 4))).2 && (parsePs (splitW 44 (wd w 5))).2) := by unfold parseL; (repeat (first | rw [if_pos (by omega)] | rw [if_neg (by omega)] | (rw [hp1]; try dsimp only)))
               refine And.intro ⟨T.mixed, by decide +kernel⟩ ?_
               first | refine x_ix (by first | exact wd_ix (i := 0) rfl (by first | omega) | exact wd_ix (i := 1) rfl (by first | omega) | exact wd_ix (i := 2) rfl (by first | omega) | exact wd_ix (i := 3) rfl (by first | omega) | exact wd_ix (i := 4) rfl (by first | omega) | exact wd_ix (i := 5) rfl (by first | omega)) ?_ | refine x_ixI (by first | exact wd_ix (i := 0) rfl (by first | omega) | exact wd_ix (i := 1) rfl (by first | omega) | exact wd_ix (i := 2) rfl (by first | omega) | exact wd_ix (i := 3) rfl (by first | omega) | exact wd_ix (i := 4) rfl (by first | omega) | exact wd_ix (i := 5) rfl (by first | omega)) ?_
               first | refine x_ix (by first | exact wd_ix (i := 0) rfl (by first | omega) | exact wd_ix (i := 1) rfl (by first | omega) | exact wd_ix (i := 2) rfl (by first | omega) | exact wd_ix (i := 3) rfl (by first | omega) | exact wd_ix (i := 4) rfl (by first | omega) | exact wd_ix (i := 5) rfl (by first | omega)) ?_ | refine x_ixI (by first | exact wd_ix (i := 0) rfl (by first | omega) | exact wd_ix (i := 1) rfl (by first | omega) | exact wd_ix (i := 2) rfl (by first | omega) | exact wd_ix (i := 3) rfl (by first | omega) | exact wd_ix (i := 4) rfl (by first | omega) | exact wd_ix (i := 5) rfl (by first | omega)) ?_
               first | refine x_ix (by first | exact wd_ix (i := 0) rfl (by first | omega) | exact wd_ix (i := 1) rfl (by first | omega) | exact wd_ix (i := 2) rfl (by first | omega) | exact wd_ix (i := 3) rfl (by first | omega) | exact wd_ix (i := 4) rfl (by first | omega) | exact wd_ix (i := 5) rfl (by first | omega)) ?_ | refine x_ixI (by first | exact wd_ix (i := 0) rfl (by first | omega) | exact wd_ix (i := 1) rfl (by first | omega) | exact wd_ix (i := 2) rfl (by first | omega) | exact wd_ix (i := 3) rfl (by first | omega) | exact wd_ix (i := 4) rfl (by first | omega) | exact wd_ix (i := 5) rfl (by first | omega)) ?_
               refine x_call T.en_118 (by first | exact parsePairs_any (wd w 4) (wd_size hw 4) | exact parsePairs_any (wd w 5) (wd_size hw 5)) ?_
               first | refine x_ix (by first | exact wd_ix (i := 0) rfl (by first | omega) | exact wd_ix (i := 1) rfl (by first | omega) | exact wd_ix (i := 2) rfl (by first | omega) | exact wd_ix (i := 3) rfl (by first | omega) | exact wd_ix (i := 4) rfl (by first | omega) | exact wd_ix (i := 5) rfl (by first | omega)) ?_ | refine x_ixI (by first | exact wd_ix (i := 0) rfl (by first | omega) | exact wd_ix (i := 1) rfl (by first | omega) | exact wd_ix (i := 2) rfl (by first | omega) | exact wd_ix (i := 3) rfl (by first | omega) | exact wd_ix (i := 4) rfl (by first | omega) | exact wd_ix (i := 5) rfl (by first | omega)) ?_
               refine x_call T.en_118 (by first | exact parsePairs_any (wd w 4) (wd_size hw 4) | exact parsePairs_any (wd w 5) (wd_size hw 5)) ?_
               refine br (fun hg18 => ?y18) (fun hg18 => ?n18)
               case' y18 =>
                refine x_jmp _ hP rfl trivial rfl (x_ent (by first | rfl | (simp only [Tr.get]; done) | (simp only [Tr.get]; simp_all; done)) (x_ent (by first | rfl | (simp only [Tr.get]; done) | (simp only [Tr.get]; simp_all; done)) trivial)) rfl
               case' n18 =>
                refine x_jmp _ hP rfl trivial rfl (x_ent (by first | rfl | (simp only [Tr.get]; done) | (simp only [Tr.get]; simp_all; done)) (x_ent (by first | rfl | (simp only [Tr.get]; done) | (simp only [Tr.get]; simp_all; done)) trivial)) rfl
              case' n17 =>
               have hP : parseL w = (⟨(kindOf (wd w 0)).1, r, noB, noB, 0, noField, [], []⟩, true) := by unfold parseL; (repeat (first | rw [if_pos (by omega)] | rw [if_neg (by omega)] | (rw [hp1]; try dsimp only)))
               refine x_jmp _ hP rfl trivial rfl (x_ent (by first | rfl | (simp only [Tr.get]; done) | (simp only [Tr.get]; simp_all; done)) (x_ent (by first | rfl | (simp only [Tr.get]; done) | (simp only [Tr.get]; simp_all; done)) trivial)) rfl
      case' n6 =>
       have hlm : ¬ (w.length : Int) = (kindOf (wd w 0)).2 := hc6
       have hP : parseL w = (⟨(kindOf (wd w 0)).1, noRef, noB, noB, 0, noField, [], []⟩, false) := by unfold parseL; (repeat (first | rw [if_pos (by omega)] | rw [if_neg (by omega)] | (rw [hp1]; try dsimp only)))
       refine br (fun hc19 => ?y19) (fun hc19 => ?n19)
       case' y19 =>
        refine x_jmp _ hP rfl trivial rfl (x_ent (by first | rfl | (simp only [Tr.get]; done) | (simp only [Tr.get]; simp_all; done)) (x_ent (by first | rfl | (simp only [Tr.get]; done) | (simp only [Tr.get]; simp_all; done)) trivial)) rfl
       case' n19 =>
        exact absurd hc19 hlm
 all_goals (refine x_ret ?_; simp only [fitsL, fits, C.asD, and_true] <;> (rw [hP]; (first | (constructor <;> rfl) | rfl)))
end Go.Vm
end
section
namespace Go.Vm
open Go.Proofs.YtmmffeldlhofiaaGreatDoor Punnet.Name Punnet.Num
set_option linter.unusedVariables false
set_option linter.unusedSimpArgs false

theorem num_back {s : ByteArray} (h : (numW s).2 = 0) : printB (numW s).1 = s ∧ inI64 (numW s).1 := by
  obtain ⟨h1, h2, h3⟩ := read_print h
  exact ⟨ba_ext (by rw [printB_data]; exact h1), ⟨h2, by show (readOf s.data.toList).1 < _; omega⟩⟩
theorem words2 {w : List ByteArray} (h : w.length = 2) : w = [wd w 0, wd w 1] := by
  rcases w with _ | ⟨a, _ | ⟨b, _ | ⟨c, r⟩⟩⟩ <;> simp at h <;> first | rfl | omega
theorem words3 {w : List ByteArray} (h : w.length = 3) : w = [wd w 0, wd w 1, wd w 2] := by
  rcases w with _ | ⟨a, _ | ⟨b, _ | ⟨c, _ | ⟨d, r⟩⟩⟩⟩ <;> simp at h <;> first | rfl | omega
theorem words4 {w : List ByteArray} (h : w.length = 4) : w = [wd w 0, wd w 1, wd w 2, wd w 3] := by
  rcases w with _ | ⟨a, _ | ⟨b, _ | ⟨c, _ | ⟨d, _ | ⟨e, r⟩⟩⟩⟩⟩ <;> simp at h <;> first | rfl | omega
noncomputable abbrev atR (w : List ByteArray) : RefD := (placeOf (wd w 1)).getD noRef
theorem atR_some {w : List ByteArray} (h : (placeOf (wd w 1)).isSome = true) : placeB (atR w) = true ∧ placeT (atR w) = wd w 1 := by
  cases hq : placeOf (wd w 1) with
  | none => rw [hq] at h; cases h
  | some r => rw [show atR w = r by unfold atR; rw [hq]; rfl]; exact placeOf_inv hq
/-- A field, of words. -/
noncomputable def parseRF (w : List ByteArray) : FieldD × Bool :=
  if w.length < 2 then (noField, false)
  else if wd w 0 = (⟨#[99, 111, 117, 110, 116, 101, 114]⟩ : ByteArray) then if ¬ w.length = 3 then (⟨atR w, 1, noB, [], 0⟩, false) else (⟨atR w, 1, noB, [], (numW (wd w 2)).1⟩, ((placeOf (wd w 1)).isSome && decide ((numW (wd w 2)).2 = 0)) && rightF ⟨atR w, 1, noB, [], (numW (wd w 2)).1⟩)
  else if wd w 0 = (⟨#[114, 101, 103, 105, 115, 116, 101, 114]⟩ : ByteArray) then if ¬ w.length = 3 then (⟨atR w, 2, noB, [], 0⟩, false) else (⟨atR w, 2, (quotedR (wd w 2)).1, [], 0⟩, ((placeOf (wd w 1)).isSome && (quotedR (wd w 2)).2) && rightF ⟨atR w, 2, (quotedR (wd w 2)).1, [], 0⟩)
  else if wd w 0 = (⟨#[101, 110, 117, 109]⟩ : ByteArray) then if ¬ w.length = 4 then (⟨atR w, 3, noB, [], 0⟩, false) else (⟨atR w, 3, wd w 2, splitW 44 (wd w 3), 0⟩, (placeOf (wd w 1)).isSome && rightF ⟨atR w, 3, wd w 2, splitW 44 (wd w 3), 0⟩)
  else if wd w 0 = (⟨#[108, 105, 115, 116]⟩ : ByteArray) then (⟨atR w, 4, noB, [], 0⟩, ((placeOf (wd w 1)).isSome && decide (w.length = 2)) && rightF ⟨atR w, 4, noB, [], 0⟩)
  else (⟨atR w, 0, noB, [], 0⟩, (placeOf (wd w 1)).isSome && rightF ⟨atR w, 0, noB, [], 0⟩)
theorem parseRF_yes {w : List ByteArray} (h : (parseRF w).2 = true) : rightF (parseRF w).1 = true ∧ fieldW (parseRF w).1 = w := by
  unfold parseRF at h ⊢
  by_cases hl : w.length < 2
  · rw [if_pos hl] at h; cases h
  rw [if_neg hl] at h ⊢
  by_cases h1 : wd w 0 = (⟨#[99, 111, 117, 110, 116, 101, 114]⟩ : ByteArray)
  · rw [if_pos h1] at h ⊢
    by_cases h2 : w.length = 3
    · rw [if_neg (fun k => k h2)] at h ⊢
      simp only [Bool.and_eq_true, decide_eq_true_eq] at h ⊢
      refine ⟨h.2, ?_⟩
      obtain ⟨p1, p2⟩ := atR_some h.1.1
      conv => rhs; rw [words3 h2]
      rw [show ∀ r n, fieldW ⟨r, 1, noB, [], n⟩ = [(⟨#[99, 111, 117, 110, 116, 101, 114]⟩ : ByteArray), placeT r, printB n] from fun _ _ => rfl, p2, (num_back h.1.2).1, h1]
    · rw [if_pos h2] at h; cases h
  rw [if_neg h1] at h ⊢
  by_cases h2 : wd w 0 = (⟨#[114, 101, 103, 105, 115, 116, 101, 114]⟩ : ByteArray)
  · rw [if_pos h2] at h ⊢
    by_cases h3 : w.length = 3
    · rw [if_neg (fun k => k h3)] at h ⊢
      simp only [Bool.and_eq_true] at h ⊢
      refine ⟨h.2, ?_⟩
      obtain ⟨p1, p2⟩ := atR_some h.1.1
      conv => rhs; rw [words3 h3]
      rw [show ∀ r n, fieldW ⟨r, 2, n, [], 0⟩ = [(⟨#[114, 101, 103, 105, 115, 116, 101, 114]⟩ : ByteArray), placeT r, quoteB n] from fun _ _ => rfl, p2, (quotedR_text h.1.2).1, h2]
    · rw [if_pos h3] at h; cases h
  rw [if_neg h2] at h ⊢
  by_cases h3 : wd w 0 = (⟨#[101, 110, 117, 109]⟩ : ByteArray)
  · rw [if_pos h3] at h ⊢
    by_cases h4 : w.length = 4
    · rw [if_neg (fun k => k h4)] at h ⊢
      simp only [Bool.and_eq_true] at h ⊢
      refine ⟨h.2, ?_⟩
      obtain ⟨p1, p2⟩ := atR_some h.1
      conv => rhs; rw [words4 h4]
      rw [show ∀ r n l, fieldW ⟨r, 3, n, l, 0⟩ = [(⟨#[101, 110, 117, 109]⟩ : ByteArray), placeT r, n, joinW 44 l] from fun _ _ _ => rfl, p2, joinW_splitW, h3]
    · rw [if_pos h4] at h; cases h
  rw [if_neg h3] at h ⊢
  by_cases h4 : wd w 0 = (⟨#[108, 105, 115, 116]⟩ : ByteArray)
  · rw [if_pos h4] at h ⊢
    simp only [Bool.and_eq_true, decide_eq_true_eq] at h ⊢
    refine ⟨h.2, ?_⟩
    obtain ⟨p1, p2⟩ := atR_some h.1.1
    conv => rhs; rw [words2 h.1.2]
    rw [show ∀ r, fieldW ⟨r, 4, noB, [], 0⟩ = [(⟨#[108, 105, 115, 116]⟩ : ByteArray), placeT r] from fun _ => rfl, p2, h4]
  · rw [if_neg h4] at h
    simp only [Bool.and_eq_true] at h
    have := rf_of h.2
    cases this
theorem scan_quote {s : ByteArray} (h : s.size ≤ 40) : scanOf (quoteB s) 0 = (s, (quoteB s).size, 0) := by
  have hd : (quoteB s).data.toList = quoteL s.data.toList := mkB_data _
  have hq := quotedAt_quote (l := (quoteB s).data.toList) (r := []) s.data.toList 0 (by rw [List.drop_zero, hd, List.append_nil])
  have h0 := scanOf_fine (s := quoteB s) (k := 0) (Nat.zero_le _) hq (by rw [ba_len]; omega)
  rw [show ((0 : Nat) : Int) = 0 from rfl] at h0
  rw [h0, show (⟨s.data.toList.toArray⟩ : ByteArray) = s from mkB_of s, Nat.zero_add, quote_size]
theorem quoted_quote {s : ByteArray} (h : s.size ≤ 40) : quotedR (quoteB s) = (s, true) := by
  unfold quotedR
  rw [scan_quote h]
  simp
theorem parseRF_back {f : FieldD} (h : rightF f = true) : parseRF (fieldW f) = (f, true) := by
  cases rf_of h with
  | counter r n hp hn =>
    rw [show fieldW ⟨r, 1, noB, [], n⟩ = [(⟨#[99, 111, 117, 110, 116, 101, 114]⟩ : ByteArray), placeT r, printB n] from rfl]
    unfold parseRF
    rw [if_neg (by simp), show wd [(⟨#[99, 111, 117, 110, 116, 101, 114]⟩ : ByteArray), placeT r, printB n] 0 = (⟨#[99, 111, 117, 110, 116, 101, 114]⟩ : ByteArray) from rfl, if_pos rfl, if_neg (fun k => k rfl), show atR [(⟨#[99, 111, 117, 110, 116, 101, 114]⟩ : ByteArray), placeT r, printB n] = r by unfold atR; rw [show wd [(⟨#[99, 111, 117, 110, 116, 101, 114]⟩ : ByteArray), placeT r, printB n] 1 = placeT r from rfl, placeOf_some hp rfl]; rfl,
      show wd [(⟨#[99, 111, 117, 110, 116, 101, 114]⟩ : ByteArray), placeT r, printB n] 2 = printB n from rfl, num_print hn, h, show wd [(⟨#[99, 111, 117, 110, 116, 101, 114]⟩ : ByteArray), placeT r, printB n] 1 = placeT r from rfl, placeOf_some hp rfl]; rfl
  | register r d hp hd =>
    rw [show fieldW ⟨r, 2, d, [], 0⟩ = [(⟨#[114, 101, 103, 105, 115, 116, 101, 114]⟩ : ByteArray), placeT r, quoteB d] from rfl]
    unfold parseRF
    rw [if_neg (by simp), show wd [(⟨#[114, 101, 103, 105, 115, 116, 101, 114]⟩ : ByteArray), placeT r, quoteB d] 0 = (⟨#[114, 101, 103, 105, 115, 116, 101, 114]⟩ : ByteArray) from rfl, if_neg (by decide +kernel), if_pos rfl, if_neg (fun k => k rfl), show atR [(⟨#[114, 101, 103, 105, 115, 116, 101, 114]⟩ : ByteArray), placeT r, quoteB d] = r by unfold atR; rw [show wd [(⟨#[114, 101, 103, 105, 115, 116, 101, 114]⟩ : ByteArray), placeT r, quoteB d] 1 = placeT r from rfl, placeOf_some hp rfl]; rfl,
      show wd [(⟨#[114, 101, 103, 105, 115, 116, 101, 114]⟩ : ByteArray), placeT r, quoteB d] 2 = quoteB d from rfl, quoted_quote hd, h, show wd [(⟨#[114, 101, 103, 105, 115, 116, 101, 114]⟩ : ByteArray), placeT r, quoteB d] 1 = placeT r from rfl, placeOf_some hp rfl]; rfl
  | enum r d l hp hl hd =>
    rw [show fieldW ⟨r, 3, d, l, 0⟩ = [(⟨#[101, 110, 117, 109]⟩ : ByteArray), placeT r, d, joinW 44 l] from rfl]
    unfold parseRF
    rw [if_neg (by simp), show wd [(⟨#[101, 110, 117, 109]⟩ : ByteArray), placeT r, d, joinW 44 l] 0 = (⟨#[101, 110, 117, 109]⟩ : ByteArray) from rfl, if_neg (by decide +kernel), if_neg (by decide +kernel), if_pos rfl, if_neg (fun k => k rfl), show atR [(⟨#[101, 110, 117, 109]⟩ : ByteArray), placeT r, d, joinW 44 l] = r by unfold atR; rw [show wd [(⟨#[101, 110, 117, 109]⟩ : ByteArray), placeT r, d, joinW 44 l] 1 = placeT r from rfl, placeOf_some hp rfl]; rfl,
      show wd [(⟨#[101, 110, 117, 109]⟩ : ByteArray), placeT r, d, joinW 44 l] 2 = d from rfl, show wd [(⟨#[101, 110, 117, 109]⟩ : ByteArray), placeT r, d, joinW 44 l] 3 = joinW 44 l from rfl, cases_split hl, h, show wd [(⟨#[101, 110, 117, 109]⟩ : ByteArray), placeT r, d, joinW 44 l] 1 = placeT r from rfl, placeOf_some hp rfl]; rfl
  | list r hp =>
    rw [show fieldW ⟨r, 4, noB, [], 0⟩ = [(⟨#[108, 105, 115, 116]⟩ : ByteArray), placeT r] from rfl]
    unfold parseRF
    rw [if_neg (by simp), show wd [(⟨#[108, 105, 115, 116]⟩ : ByteArray), placeT r] 0 = (⟨#[108, 105, 115, 116]⟩ : ByteArray) from rfl, if_neg (by decide +kernel), if_neg (by decide +kernel), if_neg (by decide +kernel), if_pos rfl, show atR [(⟨#[108, 105, 115, 116]⟩ : ByteArray), placeT r] = r by unfold atR; rw [show wd [(⟨#[108, 105, 115, 116]⟩ : ByteArray), placeT r] 1 = placeT r from rfl, placeOf_some hp rfl]; rfl,
      h, show wd [(⟨#[108, 105, 115, 116]⟩ : ByteArray), placeT r] 1 = placeT r from rfl, placeOf_some hp rfl]; rfl
theorem fieldR_yes {s : ByteArray} (h : (parseRF (splitB s 0)).2 = true) : fieldS s = some (parseRF (splitB s 0)).1 := by
  obtain ⟨h1, h2⟩ := parseRF_yes h
  exact fieldS_some h1 (by unfold textF; rw [h2]; exact join_words s)
theorem fieldR_no {s : ByteArray} (h : (parseRF (splitB s 0)).2 = false) : fieldS s = none := pick_none fun f hf e => by
  rw [← e, show splitB (textF f) 0 = fieldW f from split_line (fieldW_ne f) (fieldW_whole hf), parseRF_back hf] at h; cases h
end Go.Vm
end
section
namespace Go.Vm
open Go.RowKit Go.Proofs
set_option linter.unusedVariables false
set_option linter.unusedSimpArgs false
set_option maxRecDepth 10000

open Go.Proofs.YtmmffeldlhofiaaGreatDoor Punnet.Name Punnet.Num

theorem joinC_mem_len {c : UInt8} : ∀ {l : List (List UInt8)} {w : List UInt8}, w ∈ l → w.length ≤ (joinC c l).length
  | [], w, h => by cases h
  | [v], w, h => by rw [List.mem_singleton.1 h]; exact Nat.le_refl _
  | v :: u :: r, w, h => by
    rw [joinC, List.length_append, List.length_cons]
    rcases List.mem_cons.1 h with rfl | h
    · omega
    · have := joinC_mem_len (c := c) h; omega
theorem joinC_num {c : UInt8} : ∀ {l : List (List UInt8)}, l.length ≤ (joinC c l).length + 1
  | [] => by simp
  | [v] => by simp
  | v :: u :: r => by
    have := joinC_num (c := c) (l := u :: r)
    rw [joinC, List.length_append, List.length_cons (a := v), List.length_cons (a := c)]
    omega
theorem split_size {s w : ByteArray} (h : w ∈ splitB s 0) : w.size ≤ s.size := by
  have e := congrArg (fun x : ByteArray => x.data.toList) (join_words s)
  simp only [lineT, joinW_data] at e
  rw [← ba_len, ← ba_len s, ← e]
  exact joinC_mem_len (List.mem_map.2 ⟨w, h, rfl⟩)
theorem split_num {s : ByteArray} : (splitB s 0).length ≤ s.size + 1 := by
  have e := congrArg (fun x : ByteArray => x.data.toList) (join_words s)
  simp only [lineT, joinW_data] at e
  rw [← ba_len s, ← e]
  have := joinC_num (c := 32) (l := (splitB s 0).map (·.data.toList))
  rwa [List.length_map] at this
theorem splitW_few {c : UInt8} {s : ByteArray} {n : Nat} (h : s.size ≤ n) : (splitW c s).length ≤ n + 1 := by
  unfold splitW
  rw [List.length_map]
  have := splitC_num (c := c) s.data.toList
  rw [ba_len] at this
  omega
theorem wd_few {w : List ByteArray} {n : Nat} (hw : ∀ a ∈ w, a.size ≤ n) (i : Nat) : (wd w i).size ≤ n := by
  by_cases h : i < w.length
  · have e : wd w i = w[i] := by simp [wd, h]
    rw [e]; exact hw _ (List.getElem_mem h)
  · have e : wd w i = noB := by simp [wd, List.getElem?_eq_none (show w.length ≤ i by omega)]
    rw [e]; exact Nat.zero_le _
theorem parseField_ok {w : List ByteArray} (hw : ∀ a ∈ w, a.size ≤ 900000) : (parseF w).1.cases.length ≤ 1000000 := by
  unfold parseF
  split
  · exact Nat.zero_le _
  split
  · exact Nat.zero_le _
  split
  · exact Nat.zero_le _
  split
  · exact Nat.zero_le _
  split
  · exact Nat.le_trans (splitW_few (wd_few hw 3)) (by decide)
  split
  · exact Nat.zero_le _
  · exact Nat.zero_le _
theorem parsePs_len (l : List ByteArray) : (parsePs l).1.length ≤ l.length := by
  unfold parsePs; split
  · simp
  · exact Nat.zero_le _
theorem parseLens_ok {w : List ByteArray} (hw : ∀ a ∈ w, a.size ≤ 900) : okX (parseL w).1 := by
  have hf := parseField_ok (w := w.drop 1) fun a ha => Nat.le_trans (hw a (List.mem_of_mem_drop ha)) (by decide)
  have h4 := Nat.le_trans (parsePs_len (splitW 44 (wd w 4))) (splitW_few (wd_few hw 4))
  have h5 := Nat.le_trans (parsePs_len (splitW 44 (wd w 5))) (splitW_few (wd_few hw 5))
  unfold parseL
  repeat' split
  all_goals (refine ⟨?_, ?_, ?_⟩ <;> first | exact Nat.zero_le _ | exact hf | (dsimp only; omega))
theorem parseEdge_ok {w : List ByteArray} (hw : ∀ a ∈ w, a.size ≤ 900) : okX (parseE w).1.lens := by
  have h := parseLens_ok (w := w.drop 2) fun a ha => hw a (List.mem_of_mem_drop ha)
  unfold parseE
  split
  · exact ⟨by decide, by decide, by decide⟩
  split
  · exact h
  · exact ⟨by decide, by decide, by decide⟩

set_option maxHeartbeats 1000000 in
theorem parseEdge_any (w : List ByteArray) (hwl : w.length ≤ 1000001) (hw : ∀ a ∈ w, a.size ≤ 1000000) : Contract Tryz.prog 53 [.row (w.map strD)] [.d (eD (parseE w).1), .d (.sc (.bool ((parseE w).2)))] := by
 refine T.fn [] Tryz.func53 ?_
 refine x_len ?_
 refine br (fun hc1 => ?y1) (fun hc1 => ?n1)
 case' y1 =>
  have hP : parseE w = (noEdge, false) := by unfold parseE; rw [if_pos (by omega)]
 case' n1 =>
  have hl0 : ¬ w.length < 2 := by omega
  first | refine x_ix (by first | exact wd_ix (i := 0) rfl (by first | omega) | exact wd_ix (i := 1) rfl (by first | omega) | exact wd_ix (i := 2) rfl (by first | omega) | exact wd_ix (i := 3) rfl (by first | omega) | exact wd_ix (i := 4) rfl (by first | omega) | exact wd_ix (i := 5) rfl (by first | omega)) ?_ | refine x_ixI (by first | exact wd_ix (i := 0) rfl (by first | omega) | exact wd_ix (i := 1) rfl (by first | omega) | exact wd_ix (i := 2) rfl (by first | omega) | exact wd_ix (i := 3) rfl (by first | omega) | exact wd_ix (i := 4) rfl (by first | omega) | exact wd_ix (i := 5) rfl (by first | omega)) ?_
  refine x_call T.en_99 (scriptReadTag_any (wd w 0) (wd_size hw 0)) ?_
  first | refine x_ix (by first | exact wd_ix (i := 0) rfl (by first | omega) | exact wd_ix (i := 1) rfl (by first | omega) | exact wd_ix (i := 2) rfl (by first | omega) | exact wd_ix (i := 3) rfl (by first | omega) | exact wd_ix (i := 4) rfl (by first | omega) | exact wd_ix (i := 5) rfl (by first | omega)) ?_ | refine x_ixI (by first | exact wd_ix (i := 0) rfl (by first | omega) | exact wd_ix (i := 1) rfl (by first | omega) | exact wd_ix (i := 2) rfl (by first | omega) | exact wd_ix (i := 3) rfl (by first | omega) | exact wd_ix (i := 4) rfl (by first | omega) | exact wd_ix (i := 5) rfl (by first | omega)) ?_
  refine x_call T.en_99 (scriptReadTag_any (wd w 1) (wd_size hw 1)) ?_
  refine br (fun hg2 => ?y2) (fun hg2 => ?n2)
  case' y2 =>
   have ht0 : tagOf (wd w 0) = none := by cases hq : tagOf (wd w 0) with | none => rfl | some r => rw [hq] at hg2; simp at hg2
   have hP : parseE w = (noEdge, false) := by unfold parseE; rw [if_neg hl0, ht0]
   refine brT ?_
  case' n2 =>
   obtain ⟨a, ht0⟩ : ∃ r, tagOf (wd w 0) = some r := by cases hq : tagOf (wd w 0) with | none => rw [hq] at hg2; simp at hg2 | some r => exact ⟨r, rfl⟩
   rw [ht0]
   refine br (fun hc4 => ?y4) (fun hc4 => ?n4)
   case' y4 =>
    have ht1 : tagOf (wd w 1) = none := by cases hq : tagOf (wd w 1) with | none => rfl | some r => rw [hq] at hc4; simp at hc4
    have hP : parseE w = (noEdge, false) := by unfold parseE; rw [if_neg hl0, ht0, ht1]
   case' n4 =>
    obtain ⟨b, ht1⟩ : ∃ r, tagOf (wd w 1) = some r := by cases hq : tagOf (wd w 1) with | none => rw [hq] at hc4; simp at hc4 | some r => exact ⟨r, rfl⟩
    rw [ht1]
    have hP : parseE w = (⟨a, b, (parseL (w.drop 2)).1⟩, (parseL (w.drop 2)).2) := by unfold parseE; rw [if_neg hl0, ht0, ht1]
    first | refine x_bnd ?_ | refine x_bndI ?_
    refine x_row ?_ (by first | exact str1_wide | exact strsl_wide _ | (intro x hx; cases hx)) (h1 := by ((try simp only [List.length_map]); omega)) (h2 := by ((try simp only [List.length_map]); omega)) (hy := by first | exact words_tl | exact rfl | rfl)
    refine x_call T.en_66 (parseLens_any (w.drop 2) (by rw [List.length_drop]; omega) (fun a ha => hw a (List.mem_of_mem_drop ha))) ?_
 all_goals (refine x_ret ?_; simp only [fitsL, fits, C.asD, and_true] <;> (rw [hP]; (first | (constructor <;> rfl) | rfl)))

set_option maxHeartbeats 1000000 in
theorem readField_any (s : ByteArray) (hs : s.size ≤ 900000) : Contract Tryz.prog 75 [.sc (.string (s)), .fn 76 [], .fn 23 []] [.d (fD ((fieldS s).getD noField)), .d (.sc (.int .i64 ((if (fieldS s).isSome = true then 0 else 4))))] := by
 refine T.fn [17, 26] Tryz.func75 ?_
 refine x_call T.en_98 (nameSplit_any s (by omega)) ?_
 refine x_callF (show enters Tryz.prog 76 = true from by kernel_rfl) (parseField_any (splitB s 0)  (fun a ha => Nat.le_trans (split_size ha) (by omega))) ?_
 refine br (fun hc1 => ?y1) (fun hc1 => ?n1)
 case' y1 =>
  have hP := fieldS_no1 (s := s) (by simpa using hc1)
 case' n1 =>
  refine x_callF (show enters Tryz.prog 23 = true from by kernel_rfl) (skField_any (parseF (splitB s 0)).1 (parseField_ok (fun a ha => Nat.le_trans (split_size ha) hs))) ?_
  refine br (fun hg2 => ?y2) (fun hg2 => ?n2)
  case' y2 =>
   have hr : rightF (parseF (splitB s 0)).1 = false := by cases hq : rightF (parseF (splitB s 0)).1 with | false => rfl | true => rw [hq] at hg2; simp at hg2
   have hP := fieldS_no2 hr
   refine brT ?_
  case' n2 =>
   have hr : rightF (parseF (splitB s 0)).1 = true := by cases hq : rightF (parseF (splitB s 0)).1 with | true => rfl | false => rw [hq] at hg2; simp at hg2
   refine br (fun hc4 => ?y4) (fun hc4 => ?n4)
   case' y4 =>
    have hP := fieldS_no3 (s := s) (by rw [if_pos hr] at hc4; exact hc4)
   case' n4 =>
    have hP := fieldS_some (s := s) hr (by rw [if_pos hr] at hc4; exact hc4)
 all_goals (refine x_ret ?_; simp only [fitsL, fits, C.asD, and_true] <;> (rw [hP]; (first | (constructor <;> rfl) | rfl)))

set_option maxHeartbeats 1000000 in
theorem skReadField_any (s : ByteArray) (hs : s.size ≤ 900000) : Contract Tryz.prog 25 [.sc (.string (s))] [.d (fD ((fieldS s).getD noField)), .d (.sc (.int .i64 ((if (fieldS s).isSome = true then 0 else 4))))] := by
 refine T.fn [] Tryz.func25 ?_
 refine x_call T.en_75 (readField_any s hs) ?_
 all_goals (refine x_ret ?_; simp only [fitsL, fits, C.asD, and_true] <;> (first | exact rfl | (constructor <;> rfl)))

set_option maxHeartbeats 1000000 in
theorem readEdge_any (s : ByteArray) (hs : s.size ≤ 900000) (hws : ∀ a ∈ splitB s 0, a.size ≤ 900) : Contract Tryz.prog 52 [.sc (.string (s)), .fn 53 [], .fn 10 []] [.d (eD ((edgeS s).getD noEdge)), .d (.sc (.int .i64 ((if (edgeS s).isSome = true then 0 else 4))))] := by
 refine T.fn [17, 26] Tryz.func52 ?_
 refine x_call T.en_98 (nameSplit_any s (by omega)) ?_
 refine x_callF (show enters Tryz.prog 53 = true from by kernel_rfl) (parseEdge_any (splitB s 0) (Nat.le_trans split_num (by omega))  (fun a ha => Nat.le_trans (split_size ha) (by omega))) ?_
 refine br (fun hc1 => ?y1) (fun hc1 => ?n1)
 case' y1 =>
  have hP := edgeS_no1 (s := s) (by simpa using hc1)
 case' n1 =>
  refine x_callF (show enters Tryz.prog 10 = true from by kernel_rfl) (skEdge_any (parseE (splitB s 0)).1 (parseEdge_ok hws)) ?_
  refine br (fun hg2 => ?y2) (fun hg2 => ?n2)
  case' y2 =>
   have hr : edgeB (parseE (splitB s 0)).1 = false := by cases hq : edgeB (parseE (splitB s 0)).1 with | false => rfl | true => rw [hq] at hg2; simp at hg2
   have hP := edgeS_no2 hr
   refine brT ?_
  case' n2 =>
   have hr : edgeB (parseE (splitB s 0)).1 = true := by cases hq : edgeB (parseE (splitB s 0)).1 with | true => rfl | false => rw [hq] at hg2; simp at hg2
   refine br (fun hc4 => ?y4) (fun hc4 => ?n4)
   case' y4 =>
    have hP := edgeS_no3 (s := s) (by rw [if_pos hr] at hc4; exact hc4)
   case' n4 =>
    have hP := edgeS_some (s := s) hr (by rw [if_pos hr] at hc4; exact hc4)
 all_goals (refine x_ret ?_; simp only [fitsL, fits, C.asD, and_true] <;> (rw [hP]; (first | (constructor <;> rfl) | rfl)))

set_option maxHeartbeats 1000000 in
theorem skReadEdge_any (s : ByteArray) (hs : s.size ≤ 900000) (hws : ∀ a ∈ splitB s 0, a.size ≤ 900) : Contract Tryz.prog 12 [.sc (.string (s))] [.d (eD ((edgeS s).getD noEdge)), .d (.sc (.int .i64 ((if (edgeS s).isSome = true then 0 else 4))))] := by
 refine T.fn [] Tryz.func12 ?_
 refine x_call T.en_52 (readEdge_any s hs hws) ?_
 all_goals (refine x_ret ?_; simp only [fitsL, fits, C.asD, and_true] <;> (first | exact rfl | (constructor <;> rfl)))
end Go.Vm
end
section
namespace Go.Vm
open Go.RowKit Go.Proofs
set_option linter.unusedVariables false
set_option linter.unusedSimpArgs false
set_option maxRecDepth 10000

open Go.Proofs.YtmmffeldlhofiaaGreatDoor Punnet.Name Punnet.Num

theorem rightF_kd {f : FieldD} (h : rightF f = true) : f.kind = 1 ∨ f.kind = 2 ∨ f.kind = 3 ∨ f.kind = 4 := by cases rf_of h <;> simp
theorem ref13Print_ok {r : RefD} (h : placeB r = true) : Contract Tryz.prog 67 [rD r] [.d (.sc (.string (placeT r)))] := by
  have := ref13Print_any r
  rwa [if_pos h] at this
theorem join_zero {a : ByteArray} {l : List ByteArray} : a ++ joinW 44 (l.take 0) = a := by
  rw [show joinW 44 (l.take 0) = noB from rfl]
  exact ba_ext (by rw [ba_app, noB_data, List.append_nil])
theorem joinC_snoc {c : UInt8} {w : List UInt8} : ∀ {l : List (List UInt8)}, l ≠ [] → joinC c (l ++ [w]) = joinC c l ++ c :: w
  | [], h => absurd rfl h
  | [v], _ => rfl
  | v :: u :: r, _ => by
    have ih := joinC_snoc (c := c) (w := w) (l := u :: r) (by simp)
    rw [List.cons_append, joinC_cons _ (by simp), joinC_cons _ (by simp), ih, List.append_assoc]; rfl
theorem jc_next {a : ByteArray} {l : List ByteArray} {k : Nat} {p : ByteArray} (hp : l[k]? = some p) (hk : 0 < k) : S.c (.d (.sc (.string (a ++ joinW 44 (l.take k) ++ ⟨#[44]⟩ ++ p)))) = S.c (.d (.sc (.string (a ++ joinW 44 (l.take (k + 1)))))) := by
  have e : a ++ joinW 44 (l.take k) ++ ⟨#[44]⟩ ++ p = a ++ joinW 44 (l.take (k + 1)) := by
    apply ba_ext
    rw [List.take_add_one, hp]
    simp only [ba_app, joinW_data, Option.toList_some, List.map_append, List.map_cons, List.map_nil]
    rw [joinC_snoc (by have := lt_len hp; intro e; have e2 := congrArg List.length e; rw [List.length_map, List.length_take] at e2; simp only [List.length_nil] at e2; omega)]
    simp
  rw [e]
theorem jc_first {a : ByteArray} {l : List ByteArray} {k : Nat} {p : ByteArray} (hp : l[k]? = some p) (hk : k = 0) : S.c (.d (.sc (.string (a ++ joinW 44 (l.take k) ++ p)))) = S.c (.d (.sc (.string (a ++ joinW 44 (l.take (k + 1)))))) := by
  subst hk
  have e : a ++ joinW 44 (l.take 0) ++ p = a ++ joinW 44 (l.take (0 + 1)) := by
    rw [join_zero, List.take_add_one, hp]
    show _ = a ++ joinW 44 [p]
    rw [show joinW 44 [p] = p from ba_ext (by rw [joinW_data]; rfl)]
  rw [e]
theorem textF_size {f : FieldD} (h : rightF f = true) : (textF f).size ≤ 900 := by
  have := join_small (c := 32) (n := 200) (m := 4) (fieldW_len f) (fieldW_sizes h)
  unfold textF lineT; omega
set_option maxHeartbeats 1000000 in
theorem ref36Field_any (f : FieldD) (h : rightF f = true) : Contract Tryz.prog 26 [fD f] [.d (.sc (.string (textF f)))] := by
 refine T.fn [] Tryz.func26 ?_
 obtain ⟨hp, hdz, hcz, hce, hki, hwo⟩ := rightF_size h
 have hps := placeT_size hp
 have hpz := print_size hwo
 have hqz := quoteB_size f.deft
 have hkd := rightF_kd h
 refine x_call T.en_67 (ref13Print_ok hp) ?_
 refine br (fun hc1 => ?y1) (fun hc1 => ?n1)
 case' y1 =>
  refine x_cat ?_ (h := by ((try simp only [ByteArray.size_append, lit_size, List.size_toArray, List.length_cons, List.length_nil, noB_size]); omega))
  refine x_cat ?_ (h := by ((try simp only [ByteArray.size_append, lit_size, List.size_toArray, List.length_cons, List.length_nil, noB_size]); omega))
  refine x_call T.en_68 (refPrint_c f.worth hwo) ?_
  refine x_cat ?_ (h := by ((try simp only [ByteArray.size_append, lit_size, List.size_toArray, List.length_cons, List.length_nil, noB_size]); omega))
 case' n1 =>
  refine br (fun hc2 => ?y2) (fun hc2 => ?n2)
  case' y2 =>
   refine x_cat ?_ (h := by ((try simp only [ByteArray.size_append, lit_size, List.size_toArray, List.length_cons, List.length_nil, noB_size]); omega))
   refine x_cat ?_ (h := by ((try simp only [ByteArray.size_append, lit_size, List.size_toArray, List.length_cons, List.length_nil, noB_size]); omega))
   refine x_call T.en_69 (refQuote_c f.deft (by omega)) ?_
   refine x_cat ?_ (h := by ((try simp only [ByteArray.size_append, lit_size, List.size_toArray, List.length_cons, List.length_nil, noB_size]); omega))
  case' n2 =>
   refine br (fun hc3 => ?y3) (fun hc3 => ?n3)
   case' y3 =>
    refine x_cat ?_ (h := by ((try simp only [ByteArray.size_append, lit_size, List.size_toArray, List.length_cons, List.length_nil, noB_size]); omega))
   case' n3 =>
    have hk3 : f.kind = 3 := by omega
    refine x_cat ?_ (h := by ((try simp only [ByteArray.size_append, lit_size, List.size_toArray, List.length_cons, List.length_nil, noB_size]); omega))
    refine x_cat ?_ (h := by ((try simp only [ByteArray.size_append, lit_size, List.size_toArray, List.length_cons, List.length_nil, noB_size]); omega))
    refine x_cat ?_ (h := by ((try simp only [ByteArray.size_append, lit_size, List.size_toArray, List.length_cons, List.length_nil, noB_size]); omega))
    refine x_cat ?_ (h := by ((try simp only [ByteArray.size_append, lit_size, List.size_toArray, List.length_cons, List.length_nil, noB_size]); omega))
    refine xloopR (fb := []) T.ok (Nat.le_of_ble_eq_true rfl) [1] (fun (k : Nat) => [(5, .c (.d (.sc (.int .i64 (k : Nat))))), (4, .c (.d (.sc (.string (⟨#[101, 110, 117, 109, 32]⟩ ++ placeT f.at_ ++ ⟨#[32]⟩ ++ f.deft ++ ⟨#[32]⟩ ++ joinW 44 (f.cases.take k))))))]) (fun k => k ≤ f.cases.length ∧ True) (fun k => f.cases.length - k) 0 ⟨Nat.zero_le _, trivial⟩ (x_ent (by first | rfl | (simp only [Tr.get]; simp; done)) (x_ent (by simp only [Tr.get]; rw [join_zero]) trivial)) ?_
    rintro k ⟨hk, hi⟩
    have hjk := join_small (c := 44) (n := 12) (m := 6) (l := f.cases.take k) (by rw [List.length_take]; omega) (fun w hw => hce w (List.mem_of_mem_take hw))
    refine x_len ?_
    refine br (fun hc4 => ?y4) (fun hc4 => ?n4)
    case' y4 =>
     obtain ⟨p, hp0⟩ := elem_at hc4
     have hkl := lt_len hp0
     have hpsz := hce p (List.mem_of_getElem? hp0)
     refine br (fun hc5 => ?y5) (fun hc5 => ?n5)
     case' y5 =>
      refine x_cat ?_ (h := by ((try simp only [ByteArray.size_append, lit_size, List.size_toArray, List.length_cons, List.length_nil, noB_size]); omega))
      first | refine x_ix (by exact mapAt hp0) ?_ | refine x_ixI (by exact mapAt hp0) ?_
      refine x_cat ?_ (h := by ((try simp only [ByteArray.size_append, lit_size, List.size_toArray, List.length_cons, List.length_nil, noB_size]); omega))
      first | refine x_inc ?_ (h := by ((try simp only [ByteArray.size_append, lit_size, List.size_toArray, List.length_cons, List.length_nil, noB_size]); omega)) | refine x_add ?_ (h := by first | exact IntWalk.i64_in _ (by ((try simp only [ByteArray.size_append, lit_size, List.size_toArray, List.length_cons, List.length_nil, noB_size]); omega)) | rfl) | refine x_bin rfl rfl ?_
      refine x_rnd (k + 1) ⟨lt_len hp0, trivial⟩ (by (try dsimp only); have := lt_len hp0; omega) rfl (x_ent (by first | rfl | (simp only [Tr.get]; simp; done)) (x_ent (by simp only [Tr.get]; first | exact jc_next hp0 (by omega) | exact jc_first hp0 (by omega)) trivial)) rfl
     case' n5 =>
      first | refine x_ix (by exact mapAt hp0) ?_ | refine x_ixI (by exact mapAt hp0) ?_
      refine x_cat ?_ (h := by ((try simp only [ByteArray.size_append, lit_size, List.size_toArray, List.length_cons, List.length_nil, noB_size]); omega))
      first | refine x_inc ?_ (h := by ((try simp only [ByteArray.size_append, lit_size, List.size_toArray, List.length_cons, List.length_nil, noB_size]); omega)) | refine x_add ?_ (h := by first | exact IntWalk.i64_in _ (by ((try simp only [ByteArray.size_append, lit_size, List.size_toArray, List.length_cons, List.length_nil, noB_size]); omega)) | rfl) | refine x_bin rfl rfl ?_
      refine x_rnd (k + 1) ⟨lt_len hp0, trivial⟩ (by (try dsimp only); have := lt_len hp0; omega) rfl (x_ent (by first | rfl | (simp only [Tr.get]; simp; done)) (x_ent (by simp only [Tr.get]; first | exact jc_next hp0 (by omega) | exact jc_first hp0 (by omega)) trivial)) rfl
    case' n4 =>
     have hend : f.cases.take k = f.cases := List.take_of_length_le (past_end hc4)
 all_goals (refine x_ret ?_; simp only [fitsL, fits, C.asD, and_true] <;> (first | (refine sct (ba_ext ?_); unfold textF lineT fieldW; (repeat (first | rw [if_pos (by omega)] | rw [if_neg (by omega)])); rw [joinW_data]; simp [ba_app, joinC]; done) | (rw [hend]; refine sct (ba_ext ?_); unfold textF lineT fieldW; (repeat (first | rw [if_pos (by omega)] | rw [if_neg (by omega)])); rw [joinW_data]; simp [ba_app, joinC]; done)))

end Go.Vm
end
section
namespace Go.Vm
open Go.RowKit Go.Proofs
set_option linter.unusedVariables false
set_option linter.unusedSimpArgs false
set_option maxRecDepth 10000

open Go.Proofs.YtmmffeldlhofiaaGreatDoor Punnet.Name Punnet.Num

set_option maxHeartbeats 1000000 in
theorem ref36ParseField_any (w : List ByteArray) (hw : ∀ a ∈ w, a.size ≤ 900000) : Contract Tryz.prog 78 [.row (w.map strD)] [.d (fD (parseRF w).1), .d (.sc (.bool ((parseRF w).2)))] := by
 refine T.fn [] Tryz.func78 ?_
 refine x_len ?_
 refine br (fun hc1 => ?y1) (fun hc1 => ?n1)
 case' n1 =>
  first | refine x_ix (by first | exact wd_ix (i := 0) rfl (by omega) | exact wd_ix (i := 1) rfl (by omega) | exact wd_ix (i := 2) rfl (by omega) | exact wd_ix (i := 3) rfl (by omega) | exact wd_ix (i := 4) rfl (by omega) | exact wd_ix (i := 5) rfl (by omega)) ?_ | refine x_ixI (by first | exact wd_ix (i := 0) rfl (by omega) | exact wd_ix (i := 1) rfl (by omega) | exact wd_ix (i := 2) rfl (by omega) | exact wd_ix (i := 3) rfl (by omega) | exact wd_ix (i := 4) rfl (by omega) | exact wd_ix (i := 5) rfl (by omega)) ?_
  refine x_call T.en_102 (ref13Read_any (wd w 1) (Nat.le_trans (wd_few hw 1) (by decide))) ?_
  first | refine x_ix (by first | exact wd_ix (i := 0) rfl (by omega) | exact wd_ix (i := 1) rfl (by omega) | exact wd_ix (i := 2) rfl (by omega) | exact wd_ix (i := 3) rfl (by omega) | exact wd_ix (i := 4) rfl (by omega) | exact wd_ix (i := 5) rfl (by omega)) ?_ | refine x_ixI (by first | exact wd_ix (i := 0) rfl (by omega) | exact wd_ix (i := 1) rfl (by omega) | exact wd_ix (i := 2) rfl (by omega) | exact wd_ix (i := 3) rfl (by omega) | exact wd_ix (i := 4) rfl (by omega) | exact wd_ix (i := 5) rfl (by omega)) ?_
  refine br (fun hc2 => ?y2) (fun hc2 => ?n2)
  case' y2 =>
   refine x_len ?_
   refine br (fun hc3 => ?y3) (fun hc3 => ?n3)
   case' n3 =>
    first | refine x_ix (by first | exact wd_ix (i := 0) rfl (by omega) | exact wd_ix (i := 1) rfl (by omega) | exact wd_ix (i := 2) rfl (by omega) | exact wd_ix (i := 3) rfl (by omega) | exact wd_ix (i := 4) rfl (by omega) | exact wd_ix (i := 5) rfl (by omega)) ?_ | refine x_ixI (by first | exact wd_ix (i := 0) rfl (by omega) | exact wd_ix (i := 1) rfl (by omega) | exact wd_ix (i := 2) rfl (by omega) | exact wd_ix (i := 3) rfl (by omega) | exact wd_ix (i := 4) rfl (by omega) | exact wd_ix (i := 5) rfl (by omega)) ?_
    refine x_call T.en_103 (ref36Number_any (wd w 2) (Nat.le_trans (wd_few hw 2) (by decide))) ?_
    refine And.intro (fun hg4 => ?y4) (fun hg4 => ?n4)
    case' y4 =>
     refine And.intro ⟨T.mixed, by decide +kernel⟩ ?_
     refine And.intro (fun hg5 => ?y5) (fun hg5 => ?n5)
     case' y5 =>
      refine x_call T.en_24 (by first | exact refFieldRight_any ⟨atR w, 1, noB, [], (numW (wd w 2)).1⟩ (Nat.zero_le _) | exact refFieldRight_any ⟨atR w, 2, (quotedR (wd w 2)).1, [], 0⟩ (Nat.zero_le _) | exact refFieldRight_any ⟨atR w, 3, wd w 2, splitW 44 (wd w 3), 0⟩ (Nat.le_trans (splitW_few (wd_few hw 3)) (by decide)) | exact refFieldRight_any ⟨atR w, 4, noB, [], 0⟩ (Nat.zero_le _) | exact refFieldRight_any ⟨atR w, 0, noB, [], 0⟩ (Nat.zero_le _)) ?_
    case' n4 =>
     refine And.intro ⟨T.mixed, by decide +kernel⟩ ?_
     refine brF ?_
  case' n2 =>
   refine br (fun hc7 => ?y7) (fun hc7 => ?n7)
   case' y7 =>
    refine x_len ?_
    refine br (fun hc8 => ?y8) (fun hc8 => ?n8)
    case' n8 =>
     first | refine x_ix (by first | exact wd_ix (i := 0) rfl (by omega) | exact wd_ix (i := 1) rfl (by omega) | exact wd_ix (i := 2) rfl (by omega) | exact wd_ix (i := 3) rfl (by omega) | exact wd_ix (i := 4) rfl (by omega) | exact wd_ix (i := 5) rfl (by omega)) ?_ | refine x_ixI (by first | exact wd_ix (i := 0) rfl (by omega) | exact wd_ix (i := 1) rfl (by omega) | exact wd_ix (i := 2) rfl (by omega) | exact wd_ix (i := 3) rfl (by omega) | exact wd_ix (i := 4) rfl (by omega) | exact wd_ix (i := 5) rfl (by omega)) ?_
     refine x_call T.en_104 (refQuoted_any (wd w 2) (Nat.le_trans (wd_few hw 2) (by decide))) ?_
     refine And.intro (fun hg9 => ?y9) (fun hg9 => ?n9)
     case' y9 =>
      refine And.intro ⟨T.mixed, by decide +kernel⟩ ?_
      refine And.intro (fun hg10 => ?y10) (fun hg10 => ?n10)
      case' y10 =>
       refine x_call T.en_24 (by first | exact refFieldRight_any ⟨atR w, 1, noB, [], (numW (wd w 2)).1⟩ (Nat.zero_le _) | exact refFieldRight_any ⟨atR w, 2, (quotedR (wd w 2)).1, [], 0⟩ (Nat.zero_le _) | exact refFieldRight_any ⟨atR w, 3, wd w 2, splitW 44 (wd w 3), 0⟩ (Nat.le_trans (splitW_few (wd_few hw 3)) (by decide)) | exact refFieldRight_any ⟨atR w, 4, noB, [], 0⟩ (Nat.zero_le _) | exact refFieldRight_any ⟨atR w, 0, noB, [], 0⟩ (Nat.zero_le _)) ?_
     case' n9 =>
      refine And.intro ⟨T.mixed, by decide +kernel⟩ ?_
      refine brF ?_
   case' n7 =>
    refine br (fun hc12 => ?y12) (fun hc12 => ?n12)
    case' y12 =>
     refine x_len ?_
     refine br (fun hc13 => ?y13) (fun hc13 => ?n13)
     case' n13 =>
      first | refine x_ix (by first | exact wd_ix (i := 0) rfl (by omega) | exact wd_ix (i := 1) rfl (by omega) | exact wd_ix (i := 2) rfl (by omega) | exact wd_ix (i := 3) rfl (by omega) | exact wd_ix (i := 4) rfl (by omega) | exact wd_ix (i := 5) rfl (by omega)) ?_ | refine x_ixI (by first | exact wd_ix (i := 0) rfl (by omega) | exact wd_ix (i := 1) rfl (by omega) | exact wd_ix (i := 2) rfl (by omega) | exact wd_ix (i := 3) rfl (by omega) | exact wd_ix (i := 4) rfl (by omega) | exact wd_ix (i := 5) rfl (by omega)) ?_
      first | refine x_ix (by first | exact wd_ix (i := 0) rfl (by omega) | exact wd_ix (i := 1) rfl (by omega) | exact wd_ix (i := 2) rfl (by omega) | exact wd_ix (i := 3) rfl (by omega) | exact wd_ix (i := 4) rfl (by omega) | exact wd_ix (i := 5) rfl (by omega)) ?_ | refine x_ixI (by first | exact wd_ix (i := 0) rfl (by omega) | exact wd_ix (i := 1) rfl (by omega) | exact wd_ix (i := 2) rfl (by omega) | exact wd_ix (i := 3) rfl (by omega) | exact wd_ix (i := 4) rfl (by omega) | exact wd_ix (i := 5) rfl (by omega)) ?_
      refine x_call T.en_123 (refCut_any 44 (wd w 3) (Nat.le_trans (wd_few hw 3) (by decide))) ?_
      refine And.intro ⟨T.mixed, by decide +kernel⟩ ?_
      refine And.intro (fun hg14 => ?y14) (fun hg14 => ?n14)
      case' y14 =>
       refine x_call T.en_24 (by first | exact refFieldRight_any ⟨atR w, 1, noB, [], (numW (wd w 2)).1⟩ (Nat.zero_le _) | exact refFieldRight_any ⟨atR w, 2, (quotedR (wd w 2)).1, [], 0⟩ (Nat.zero_le _) | exact refFieldRight_any ⟨atR w, 3, wd w 2, splitW 44 (wd w 3), 0⟩ (Nat.le_trans (splitW_few (wd_few hw 3)) (by decide)) | exact refFieldRight_any ⟨atR w, 4, noB, [], 0⟩ (Nat.zero_le _) | exact refFieldRight_any ⟨atR w, 0, noB, [], 0⟩ (Nat.zero_le _)) ?_
    case' n12 =>
     refine br (fun hc15 => ?y15) (fun hc15 => ?n15)
     case' y15 =>
      refine And.intro (fun hg16 => ?y16) (fun hg16 => ?n16)
      case' y16 =>
       refine x_len ?_
       refine And.intro ⟨T.mixed, by decide +kernel⟩ ?_
       refine And.intro (fun hg17 => ?y17) (fun hg17 => ?n17)
       case' y17 =>
        have hl9 : w.length = 2 := by have := of_decide_eq_true hg17; omega
        refine x_call T.en_24 (by first | exact refFieldRight_any ⟨atR w, 1, noB, [], (numW (wd w 2)).1⟩ (Nat.zero_le _) | exact refFieldRight_any ⟨atR w, 2, (quotedR (wd w 2)).1, [], 0⟩ (Nat.zero_le _) | exact refFieldRight_any ⟨atR w, 3, wd w 2, splitW 44 (wd w 3), 0⟩ (Nat.le_trans (splitW_few (wd_few hw 3)) (by decide)) | exact refFieldRight_any ⟨atR w, 4, noB, [], 0⟩ (Nat.zero_le _) | exact refFieldRight_any ⟨atR w, 0, noB, [], 0⟩ (Nat.zero_le _)) ?_
       case' n17 =>
        have hl9 : ¬ w.length = 2 := by have := of_decide_eq_false hg17; omega
      case' n16 =>
       refine And.intro ⟨T.mixed, by decide +kernel⟩ ?_
       refine brF ?_
     case' n15 =>
      refine And.intro ⟨T.mixed, by decide +kernel⟩ ?_
      refine And.intro (fun hg19 => ?y19) (fun hg19 => ?n19)
      case' y19 =>
       refine x_call T.en_24 (by first | exact refFieldRight_any ⟨atR w, 1, noB, [], (numW (wd w 2)).1⟩ (Nat.zero_le _) | exact refFieldRight_any ⟨atR w, 2, (quotedR (wd w 2)).1, [], 0⟩ (Nat.zero_le _) | exact refFieldRight_any ⟨atR w, 3, wd w 2, splitW 44 (wd w 3), 0⟩ (Nat.le_trans (splitW_few (wd_few hw 3)) (by decide)) | exact refFieldRight_any ⟨atR w, 4, noB, [], 0⟩ (Nat.zero_le _) | exact refFieldRight_any ⟨atR w, 0, noB, [], 0⟩ (Nat.zero_le _)) ?_
 all_goals (refine x_ret ?_; simp only [fitsL, fits, C.asD, and_true] <;> (unfold parseRF; (repeat (first | rw [if_pos (by omega)] | rw [if_neg (by omega)] | rw [if_pos (by assumption)] | rw [if_neg (by assumption)])); first | (constructor <;> first | rfl | (simp_all; done)) | (simp_all; done)))

end Go.Vm
end
section
namespace Go.Vm
open Go.RowKit Go.Proofs
set_option linter.unusedVariables false
set_option linter.unusedSimpArgs false
set_option maxRecDepth 10000

open Go.Proofs.YtmmffeldlhofiaaGreatDoor Punnet.Name Punnet.Num

end Go.Vm
end
section
namespace Go.Vm
set_option linter.unusedVariables false
set_option linter.unusedSimpArgs false

/-! ### What is picked out of a map -/
def pick {β : Type} (p : NodeD → Bool) (f : TagD × NodeD → β) (l : List (TagD × NodeD)) (seen : List Nat) : List β := seen.filterMap fun i => (l[i]?).bind fun q => if p q.2 = true then some (f q) else none
/-- Each entry once. -/
def Seen (n : Nat) (seen : List Nat) : Prop := seen.Nodup ∧ ∀ i ∈ seen, i < n
theorem Seen.next {n i : Nat} {seen : List Nat} (h : Seen n seen) (hi : i < n) (hn : i ∉ seen) : Seen n (seen ++ [i]) := by
  refine ⟨List.nodup_append.2 ⟨h.1, by simp, ?_⟩, fun j hj => ?_⟩
  · intro a ha b hb e
    rw [List.mem_singleton] at hb
    subst hb e; exact hn ha
  · rcases List.mem_append.1 hj with hj | hj
    · exact h.2 j hj
    · rw [List.mem_singleton.1 hj]; exact hi
theorem Seen.all {n : Nat} {seen : List Nat} (h : Seen n seen) (ha : ∀ i, i < n → i ∈ seen) : seen.Perm (List.range n) := by
  refine (List.perm_ext_iff_of_nodup h.1 List.nodup_range).2 fun i => ?_
  rw [List.mem_range]
  exact ⟨h.2 i, ha i⟩
theorem Seen.len {n : Nat} {seen : List Nat} (h : Seen n seen) : seen.length ≤ n := by
  have hp : seen.Perm ((List.range n).filter fun i => decide (i ∈ seen)) := (List.perm_ext_iff_of_nodup h.1 (List.nodup_range.filter _)).2 fun i => by
    rw [List.mem_filter, List.mem_range, decide_eq_true_eq]
    exact ⟨fun hi => ⟨h.2 i hi, hi⟩, fun hi => hi.2⟩
  have := List.length_filter_le (fun i => decide (i ∈ seen)) (List.range n)
  rw [hp.length_eq]
  simpa using this
/-! ### The same edges in another order -/
end Go.Vm
end
section
namespace Go.Vm
set_option linter.unusedVariables false
set_option linter.unusedSimpArgs false

/-! ### Ways -/
/-! ### Sorting as the document's answer does it -/
end Go.Vm
end
section
namespace Go.Vm
open Go.RowKit Go.Proofs
set_option linter.unusedVariables false
set_option linter.unusedSimpArgs false
set_option maxRecDepth 10000

end Go.Vm
end
section
namespace Go.Vm
open Go.RowKit Go.Proofs
set_option linter.unusedVariables false
set_option linter.unusedSimpArgs false
set_option maxRecDepth 10000

open Go.Proofs.YtmmffeldlhofiaaGreatDoor Punnet.Name Punnet.Num

set_option maxHeartbeats 1000000 in
theorem ref36ReadField_any (s : ByteArray) (hs : s.size ≤ 900000) : Contract Tryz.prog 28 [.sc (.string (s))] [.d (fD ((fieldS s).getD noField)), .d (.sc (.bool ((fieldS s).isSome)))] := by
 refine T.fn [] Tryz.func28 ?_
 refine x_call T.en_55 (refSplit_c s (by omega)) ?_
 refine x_call T.en_78 (ref36ParseField_any (splitB s 0) (fun a ha => Nat.le_trans (split_size ha) hs)) ?_
 refine br (fun hc1 => ?y1) (fun hc1 => ?n1)
 case' y1 =>
  have hP := fieldR_no (s := s) (by simpa using hc1)
 case' n1 =>
  have hP := fieldR_yes (s := s) (by simpa using hc1)
 all_goals (refine x_ret ?_; simp only [fitsL, fits, C.asD, and_true] <;> (rw [hP]; (first | (constructor <;> rfl) | rfl)))

end Go.Vm
end
section
namespace Go.Vm
open Go.RowKit Go.Proofs
set_option linter.unusedVariables false
set_option linter.unusedSimpArgs false
set_option maxRecDepth 10000

open Go.Proofs.YtmmffeldlhofiaaGreatDoor Punnet.Name Punnet.Num

def exT36 : ByteArray := ⟨#[49, 46, 49, 32, 48, 46, 48, 32, 119, 114, 97, 112, 32, 108, 105, 110, 101, 46, 110, 111, 116, 101, 32, 34, 34]⟩
def exE36 : EdgeD := ⟨⟨1, 1⟩, ⟨0, 0⟩, ⟨7, ⟨1, noB, ⟨#[110, 111, 116, 101]⟩⟩, noB, noB, 0, noField, [], []⟩⟩
def exL36 : LensD := ⟨6, ⟨1, noB, ⟨#[113, 116, 121]⟩⟩, ⟨#[117, 110, 105, 116]⟩, ⟨#[98, 111, 120]⟩, 12, noField, [], []⟩
theorem exE36_read : edgeS exT36 = some exE36 := edgeS_some (by decide +kernel) (by decide +kernel)
theorem exL36_right : rightL exL36 = true := by decide +kernel
theorem exL36_text : textL exL36 = ⟨#[115, 112, 108, 105, 116, 32, 108, 105, 110, 101, 46, 113, 116, 121, 32, 117, 110, 105, 116, 32, 98, 111, 120, 32, 49, 50]⟩ := by decide +kernel
set_option maxHeartbeats 1000000 in
theorem awake36_any  : Contract Tryz.prog 8 [] [.d (.sc (.bool (true)))] := by
 refine T.fn [] Tryz.func8 ?_
 have c1 := skReadEdge_any exT36 (by decide) (fun a ha => Nat.le_trans (split_size ha) (by decide))
 rw [exE36_read] at c1
 have c2 := skLens_any exL36 ⟨by decide, by decide, by decide⟩
 rw [if_pos exL36_right, if_pos exL36_right, exL36_text] at c2
 refine x_call T.en_12 (c1) ?_
 refine x_call T.en_16 (c2) ?_
 refine brT ?_
 refine brT ?_
 refine xeq_23e ⟨1, 1⟩ ⟨1, 1⟩ ?_
 refine brT ?_
 refine brT ?_
 all_goals (refine x_ret ?_; simp only [fitsL, fits, C.asD, and_true] <;> (rfl))

end Go.Vm
end
section
namespace Go.Vm
open Go.Proofs.YtmmffeldlhofiaaGreatDoor
set_option linter.unusedVariables false
set_option linter.unusedSimpArgs false

noncomputable def readAll (l : List ByteArray) : List FieldD := l.map fun s => (fieldS s).getD noField
noncomputable def schemaOf (l : List ByteArray) : List FieldD × Int :=
  if (∀ s ∈ l, (fieldS s).isSome = true) then (if rightS (readAll l) = true then (readAll l, 0) else ([], 5)) else ([], 4)
theorem all_take {l : List ByteArray} {k : Nat} {s : ByteArray} {f : FieldD} (h : l[k]? = some s) (e : fieldS s = some f) (ha : ∀ s ∈ l.take k, (fieldS s).isSome = true) : ∀ s ∈ l.take (k + 1), (fieldS s).isSome = true := by
  intro x hx
  rw [List.take_add_one, h] at hx
  rcases List.mem_append.1 hx with hx | hx
  · exact ha x hx
  · simp at hx; rw [hx, e]; rfl
theorem schemaOf_no {l : List ByteArray} {k : Nat} {s : ByteArray} (h : l[k]? = some s) (e : fieldS s = none) : schemaOf l = ([], 4) := by
  unfold schemaOf
  rw [if_neg]
  intro q
  have := q s (List.mem_of_getElem? h)
  rw [e] at this; cases this
theorem schemaOf_bad {l : List ByteArray} (h : ∀ s ∈ l, (fieldS s).isSome = true) (e : rightS (readAll l) = false) : schemaOf l = ([], 5) := by
  unfold schemaOf
  rw [if_pos h, if_neg (by rw [e]; decide)]
theorem schemaOf_yes {l : List ByteArray} (h : ∀ s ∈ l, (fieldS s).isSome = true) (e : rightS (readAll l) = true) : schemaOf l = (readAll l, 0) := by
  unfold schemaOf
  rw [if_pos h, if_pos e]
theorem readAll_len (l : List ByteArray) : (readAll l).length = l.length := by unfold readAll; rw [List.length_map]
theorem schemaOf_texts {l : List FieldD} (h : rightS l = true) : schemaOf (l.map textF) = (l, 0) := by
  have hr := (rightS_iff.1 h).2.1
  have e : readAll (l.map textF) = l := by
    unfold readAll
    rw [List.map_map]
    conv => rhs; rw [← List.map_id l]
    refine List.map_congr_left fun f hf => ?_
    show (fieldS (textF f)).getD noField = id f
    rw [fieldS_some (hr f hf) rfl]; rfl
  refine (schemaOf_yes ?_ (by rw [e]; exact h)).trans (by rw [e])
  intro s hs
  obtain ⟨f, hf, rfl⟩ := List.mem_map.1 hs
  rw [fieldS_some (hr f hf) rfl]; rfl
theorem schemaOf_ok (l : List ByteArray) : okL (schemaOf l).1 := by
  unfold schemaOf
  split
  · split
    · exact okL_right ‹_›
    · exact ⟨Nat.zero_le _, by simp⟩
  · exact ⟨Nat.zero_le _, by simp⟩
/-- Each field that is read is right, so its cases are few. -/
theorem readAll_ok {l : List ByteArray} (hl : l.length ≤ 1000) (h : ∀ s ∈ l, (fieldS s).isSome = true) : okL (readAll l) := by
  refine ⟨by rw [readAll_len]; exact hl, fun f hf => ?_⟩
  obtain ⟨s, hs, rfl⟩ := List.mem_map.1 hf
  obtain ⟨g, hg⟩ := Option.isSome_iff_exists.1 (h s hs)
  rw [hg]
  exact rightF_cases (pick_inv hg).1
end Go.Vm
end
section
namespace Go.Vm
open Go.RowKit Go.Proofs
set_option linter.unusedVariables false
set_option linter.unusedSimpArgs false
set_option maxRecDepth 10000

open Go.Proofs.YtmmffeldlhofiaaGreatDoor Punnet.Name Punnet.Num

theorem fDs_wide9 (l : List FieldD) : ∀ x ∈ l.map fD, x.cells.length = 7 := by intro x hx; obtain ⟨e, _, rfl⟩ := List.mem_map.1 hx; rfl
def ftx (l : List FieldD) (k : Nat) : List ByteArray := (l.take k).map textF
theorem ftx_len {l : List FieldD} {k : Nat} (h : k ≤ l.length) : (ftx l k).length = k := by unfold ftx; rw [List.length_map, List.length_take]; omega
theorem ftx_take {l : List FieldD} {k : Nat} {p : FieldD} (hp : l[k]? = some p) : (ftx l (k + 1)).map strD = (ftx l k).map strD ++ [strD (joinW 32 (fieldW p))] := by
  unfold ftx
  rw [List.take_add_one, hp]; simp [textF, lineT]
noncomputable def rds (l : List ByteArray) (k : Nat) : List FieldD := readAll (l.take k)
theorem rds_len {l : List ByteArray} {k : Nat} (h : k ≤ l.length) : (rds l k).length = k := by unfold rds; rw [readAll_len, List.length_take]; omega
theorem rds_take {l : List ByteArray} {k : Nat} {p : ByteArray} (hp : l[k]? = some p) : (rds l (k + 1)).map fD = (rds l k).map fD ++ [fD ((fieldS p).getD noField)] := by
  unfold rds readAll
  rw [List.take_add_one, hp]; simp
theorem rds_ok {l : List ByteArray} {k : Nat} (hl : l.length ≤ 1000) (h : ∀ s ∈ l.take k, (fieldS s).isSome = true) : okL (rds l k) := readAll_ok (by rw [List.length_take]; omega) h
theorem allF_next {l : List ByteArray} {k : Nat} {p : ByteArray} (hp : l[k]? = some p) (ha : ∀ s ∈ l.take k, (fieldS s).isSome = true) (hf : (fieldS p).isSome = true) : ∀ s ∈ l.take (k + 1), (fieldS s).isSome = true := by
  obtain ⟨f, e⟩ := Option.isSome_iff_exists.1 hf
  exact all_take hp e ha

set_option maxHeartbeats 1000000 in
theorem skSchema_any (l : List FieldD) (ho : okL l) : Contract Tryz.prog 30 [.row (l.map fD)] [.d (.row ((if rightS l = true then l.map textF else []).map strD)), .d (.sc (.int .i64 ((if rightS l = true then 0 else 5))))] := by
 refine T.fn [] Tryz.func30 ?_
 have hol := ho.1
 refine x_call T.en_79 (schemaRight_any l ho) ?_
 refine br (fun hc1 => ?y1) (fun hc1 => ?n1)
 case' y1 =>
  have hr : rightS l = false := by simpa using hc1
 case' n1 =>
  have hr : rightS l = true := by simpa using hc1
  refine x_len ?_
  refine xnil 4 500004 9 rfl (by decide) (by decide +kernel) ?_
  refine xloopR (fb := []) T.ok (Nat.le_of_ble_eq_true rfl) [10, 11] (fun (k : Nat) => [(12, .c (.d (.sc (.int .i64 (k : Nat))))), (4, .c (.own 500004 9 ((ftx l k).map strD)))]) (fun k => k ≤ l.length ∧ True) (fun k => l.length - k) 0 ⟨Nat.zero_le _, trivial⟩ (x_ent (by first | rfl | (simp only [Tr.get]; simp; done)) (x_ent (by first | rfl | (simp only [Tr.get]; simp; done)) trivial)) ?_
  rintro k ⟨hk, hi⟩
  have htw := ftx_len hk
  refine br (fun hc2 => ?y2) (fun hc2 => ?n2)
  case' y2 =>
   obtain ⟨p, hp⟩ := elem_at hc2
   have hkl := lt_len hp
   have hrf := rightS_mem hr (List.mem_of_getElem? hp)
   have htw := ftx_len hk
   first | refine x_ix (by exact mapAt hp) ?_ | refine x_ixI (by exact mapAt hp) ?_
   refine x_call T.en_73 (fieldWords_any p hrf) ?_
   refine x_call T.en_50 (join_any 32 (fieldW p) (by have := fieldW_len p; omega) (joinW_size 32 (n := 200) (by have := fieldW_len p; omega) (fieldW_sizes hrf))) ?_
   first | refine x_app ?_ (by first | exact fD_wide | exact str1_wide | exact fDs_wide9 _ | exact strsl_wide _ | (intro x hx; cases hx)) (h1 := by unfold maxLen; ((try simp only [List.length_map, List.length_append, List.length_cons, List.length_nil]); omega)) (h2 := by ((try simp only [List.length_map, List.length_append, List.length_cons, List.length_nil]); omega)) | refine x_appN ?_ (by first | exact fD_wide | exact str1_wide | exact fDs_wide9 _ | exact strsl_wide _ | (intro x hx; cases hx)) (h1 := by unfold maxLen; ((try simp only [List.length_map, List.length_append, List.length_cons, List.length_nil]); omega)) (h2 := by ((try simp only [List.length_map, List.length_append, List.length_cons, List.length_nil]); omega))
   first | refine x_inc ?_ (h := by ((try simp only [List.length_map, List.length_append, List.length_cons, List.length_nil]); omega)) | refine x_add ?_ (h := by first | exact IntWalk.i64_in _ (by ((try simp only [List.length_map, List.length_append, List.length_cons, List.length_nil]); omega)) | rfl) | refine x_bin rfl rfl ?_
   refine x_rnd (k + 1) ⟨lt_len hp, trivial⟩ (by (try dsimp only); have := lt_len hp; omega) rfl (x_ent (by first | rfl | (simp only [Tr.get]; simp; done)) (x_ent (by simp only [Tr.get]; first | (rw [ftx_take hp]; done) | (rw [ftx_take hp]; rfl)) trivial)) rfl
  case' n2 =>
   have hend : l.take k = l := List.take_of_length_le (past_end hc2)
 all_goals (refine x_ret ?_; simp only [fitsL, fits, C.asD, and_true] <;> (first | (rw [if_neg (by rw [hr]; decide), if_neg (by rw [hr]; decide)]; exact ⟨rfl, rfl⟩) | (rw [if_pos hr, if_pos hr]; unfold ftx; rw [hend]; exact ⟨rfl, rfl⟩)))

set_option maxHeartbeats 1000000 in
theorem skReadSchema_any (l : List ByteArray) (hl : l.length ≤ 1000) (hs : ∀ s ∈ l, s.size ≤ 900000) : Contract Tryz.prog 32 [.row (l.map strD)] [.d (.row ((schemaOf l).1.map fD)), .d (.sc (.int .i64 ((schemaOf l).2)))] := by
 refine T.fn [] Tryz.func32 ?_
 refine x_len ?_
 refine xnil 4 500004 28 rfl (by decide) (by decide +kernel) ?_
 refine xloopR (fb := []) T.ok (Nat.le_of_ble_eq_true rfl) [9, 10] (fun (k : Nat) => [(11, .c (.d (.sc (.int .i64 (k : Nat))))), (4, .c (.own 500004 28 ((rds l k).map fD)))]) (fun k => k ≤ l.length ∧ ∀ s ∈ l.take k, (fieldS s).isSome = true) (fun k => l.length - k) 0 ⟨Nat.zero_le _, (by simp)⟩ (x_ent (by first | rfl | (simp only [Tr.get]; simp; done)) (x_ent (by first | rfl | (simp only [Tr.get]; simp; done)) trivial)) ?_
 rintro k ⟨hk, hi⟩
 have hrl := rds_len hk
 refine br (fun hc1 => ?y1) (fun hc1 => ?n1)
 case' y1 =>
  obtain ⟨p, hp⟩ := elem_at hc1
  have hkl := lt_len hp
  have hps := hs p (List.mem_of_getElem? hp)
  have hrl := rds_len hk
  first | refine x_ix (by exact mapAt hp) ?_ | refine x_ixI (by exact mapAt hp) ?_
  refine x_call T.en_25 (skReadField_any p hps) ?_
  refine br (fun hc2 => ?y2) (fun hc2 => ?n2)
  case' y2 =>
   have hf : fieldS p = none := by cases hq : fieldS p with | none => rfl | some r => rw [hq] at hc2; simp at hc2
   have hP := schemaOf_no hp hf
  case' n2 =>
   have hf : (fieldS p).isSome = true := by cases hq : fieldS p with | none => rw [hq] at hc2; simp at hc2 | some r => rfl
   first | refine x_app ?_ (by first | exact fD_wide | exact str1_wide | exact fDs_wide9 _ | exact strsl_wide _ | (intro x hx; cases hx)) (h1 := by unfold maxLen; ((try simp only [List.length_map, List.length_append, List.length_cons, List.length_nil]); omega)) (h2 := by ((try simp only [List.length_map, List.length_append, List.length_cons, List.length_nil]); omega)) | refine x_appN ?_ (by first | exact fD_wide | exact str1_wide | exact fDs_wide9 _ | exact strsl_wide _ | (intro x hx; cases hx)) (h1 := by unfold maxLen; ((try simp only [List.length_map, List.length_append, List.length_cons, List.length_nil]); omega)) (h2 := by ((try simp only [List.length_map, List.length_append, List.length_cons, List.length_nil]); omega))
   first | refine x_inc ?_ (h := by ((try simp only [List.length_map, List.length_append, List.length_cons, List.length_nil]); omega)) | refine x_add ?_ (h := by first | exact IntWalk.i64_in _ (by ((try simp only [List.length_map, List.length_append, List.length_cons, List.length_nil]); omega)) | rfl) | refine x_bin rfl rfl ?_
   refine x_rnd (k + 1) ⟨lt_len hp, (allF_next hp hi hf)⟩ (by (try dsimp only); have := lt_len hp; omega) rfl (x_ent (by first | rfl | (simp only [Tr.get]; simp; done)) (x_ent (by simp only [Tr.get]; first | (rw [rds_take hp]; done) | (rw [rds_take hp]; rfl)) trivial)) rfl
 case' n1 =>
  have hend : l.take k = l := List.take_of_length_le (past_end hc1)
  have hall : ∀ s ∈ l, (fieldS s).isSome = true := by rw [hend] at hi; exact hi
  have hrd : rds l k = readAll l := by unfold rds; rw [hend]
  refine x_call T.en_79 (schemaRight_any (rds l k) (rds_ok hl hi)) ?_
  refine br (fun hc3 => ?y3) (fun hc3 => ?n3)
  case' y3 =>
   have hr : rightS (readAll l) = false := by rw [← hrd]; simpa using hc3
   have hP := schemaOf_bad hall hr
  case' n3 =>
   have hr : rightS (readAll l) = true := by rw [← hrd]; simpa using hc3
   have hP := schemaOf_yes hall hr
 all_goals (refine x_ret ?_; simp only [fitsL, fits, C.asD, and_true] <;> (rw [hP]; (try rw [hrd]); (first | (constructor <;> rfl) | rfl)))

set_option maxHeartbeats 1000000 in
theorem ref36ReadSchema_any (l : List ByteArray) (hl : l.length ≤ 1000) (hs : ∀ s ∈ l, s.size ≤ 900000) : Contract Tryz.prog 34 [.row (l.map strD)] [.d (.row ((schemaOf l).1.map fD)), .d (.sc (.int .i64 ((schemaOf l).2)))] := by
 refine T.fn [] Tryz.func34 ?_
 refine xloopR (fb := []) T.ok (Nat.le_of_ble_eq_true rfl) [0] (fun (k : Nat) => [(5, .c (.d (.sc (.int .i64 (k : Nat))))), (4, .c (.own 8 28 ((rds l k).map fD)))]) (fun k => k ≤ l.length ∧ ∀ s ∈ l.take k, (fieldS s).isSome = true) (fun k => l.length - k) 0 ⟨Nat.zero_le _, (by simp)⟩ (x_ent (by first | rfl | (simp only [Tr.get]; simp; done)) (x_ent (by first | rfl | (simp only [Tr.get]; simp; done)) trivial)) ?_
 rintro k ⟨hk, hi⟩
 have hrl := rds_len hk
 refine x_len ?_
 refine br (fun hc1 => ?y1) (fun hc1 => ?n1)
 case' y1 =>
  obtain ⟨p, hp⟩ := elem_at hc1
  have hkl := lt_len hp
  have hps := hs p (List.mem_of_getElem? hp)
  have hrl := rds_len hk
  first | refine x_ix (by exact mapAt hp) ?_ | refine x_ixI (by exact mapAt hp) ?_
  refine x_call T.en_28 (ref36ReadField_any p hps) ?_
  refine br (fun hc2 => ?y2) (fun hc2 => ?n2)
  case' y2 =>
   have hf : fieldS p = none := by cases hq : fieldS p with | none => rfl | some r => rw [hq] at hc2; simp at hc2
   have hP := schemaOf_no hp hf
  case' n2 =>
   have hf : (fieldS p).isSome = true := by cases hq : fieldS p with | none => rw [hq] at hc2; simp at hc2 | some r => rfl
   first | refine x_app ?_ (by first | exact fD_wide | exact str1_wide | exact fDs_wide9 _ | exact strsl_wide _ | (intro x hx; cases hx)) (h1 := by unfold maxLen; ((try simp only [List.length_map, List.length_append, List.length_cons, List.length_nil]); omega)) (h2 := by ((try simp only [List.length_map, List.length_append, List.length_cons, List.length_nil]); omega)) | refine x_appN ?_ (by first | exact fD_wide | exact str1_wide | exact fDs_wide9 _ | exact strsl_wide _ | (intro x hx; cases hx)) (h1 := by unfold maxLen; ((try simp only [List.length_map, List.length_append, List.length_cons, List.length_nil]); omega)) (h2 := by ((try simp only [List.length_map, List.length_append, List.length_cons, List.length_nil]); omega))
   first | refine x_inc ?_ (h := by ((try simp only [List.length_map, List.length_append, List.length_cons, List.length_nil]); omega)) | refine x_add ?_ (h := by first | exact IntWalk.i64_in _ (by ((try simp only [List.length_map, List.length_append, List.length_cons, List.length_nil]); omega)) | rfl) | refine x_bin rfl rfl ?_
   refine x_rnd (k + 1) ⟨lt_len hp, (allF_next hp hi hf)⟩ (by (try dsimp only); have := lt_len hp; omega) rfl (x_ent (by first | rfl | (simp only [Tr.get]; simp; done)) (x_ent (by simp only [Tr.get]; first | (rw [rds_take hp]; done) | (rw [rds_take hp]; rfl)) trivial)) rfl
 case' n1 =>
  have hend : l.take k = l := List.take_of_length_le (past_end hc1)
  have hall : ∀ s ∈ l, (fieldS s).isSome = true := by rw [hend] at hi; exact hi
  have hrd : rds l k = readAll l := by unfold rds; rw [hend]
  refine x_call T.en_31 (refSchemaRight_any (rds l k) (rds_ok hl hi)) ?_
  refine br (fun hc3 => ?y3) (fun hc3 => ?n3)
  case' y3 =>
   have hr : rightS (readAll l) = false := by rw [← hrd]; simpa using hc3
   have hP := schemaOf_bad hall hr
  case' n3 =>
   have hr : rightS (readAll l) = true := by rw [← hrd]; simpa using hc3
   have hP := schemaOf_yes hall hr
 all_goals (refine x_ret ?_; simp only [fitsL, fits, C.asD, and_true] <;> (rw [hP]; (try rw [hrd]); (first | (constructor <;> rfl) | rfl)))
end Go.Vm
end
