/- The walk of num.Print. -/
import Derived.Test.YthnpfpgedlmpoaaKit
import Derived.Test.YthnpfpgedlmpoaaNumPlain
namespace Go.Proofs.Ythnpfpgedlmpoaa
open Go.RowKit Punnet.Num

/-- What holds at the label of num.Print: so much is left, the digits behind are laid. -/
def PrintJ (n : Int) (m : Nat) (w : World) (a' : Act) (w' : World) : Prop :=
  ∃ (left k : Nat) (tail : List UInt8) (A : Array Value) (u6 u7 u8 u9 u10 u11 u12 u13 u14 u15 u16 u17 u18 u19 u20 u21 u22 u23 : Value),
    a' = { tmps := #[.int .i64 n, undef, .string ⟨#[]⟩, .pointer (some ⟨w.heap.size, 0, none⟩), .int .i64 ((k : Int) + 1 + 1), .int .u64 (left : Int), u6, u7, u8, u9, u10, u11, u12, u13, u14, u15, u16, u17, u18, u19, u20, u21, u22, u23, undef, undef, undef, undef, undef, undef, undef, undef, undef], defers := [] } ∧
    w' = w.alloc (.cells A 32) ∧ A.size = 20 ∧ k + 2 + tail.length = 20 ∧ (∀ j (h : j < tail.length), A[k + 2 + j]? = some (.int .u8 (tail[j].toNat : Int))) ∧
    left < 10 ^ (k + 1) ∧ left < 18446744073709551616 ∧ digs m = digs left ++ tail

theorem tail_step {A : Array Value} {tail : List UInt8} {k : Nat} (hA : A.size = 20) (hk : k + 1 + tail.length = 20) (hc : ∀ j (h : j < tail.length), A[k + 1 + j]? = some (.int .u8 (tail[j].toNat : Int)))
    (d : UInt8) (n : Int) (hn : n = d.toNat) :
    ∀ j (h : j < (d :: tail).length), (A.setIfInBounds k (.int .u8 n))[k + j]? = some (.int .u8 ((d :: tail)[j].toNat : Int)) := by
  intro j h
  cases j with
  | zero =>
    have : k < A.size := by omega
    simp [hn, this]
  | succ j =>
    have h' : j < tail.length := by simpa using h
    rw [Array.getElem?_setIfInBounds, if_neg (by omega), show k + (j + 1) = k + 1 + j by omega, hc j h']
    rfl

theorem digit_nat (m : Nat) : (48 + (m : Int) % 10) = ((UInt8.ofNat (48 + m % 10)).toNat : Int) := by
  rw [UInt8.toNat_ofNat']
  omega

theorem slice_text (b : Nat) (W : World) (z : Int) (k : Nat) (hz : z = k) (hk : k < 20) (n : Nat) (hn : n = 20 - k) :
    (Instr.sliceAt 32 (.pointer (some ⟨b, 0, none⟩)) (some (.int .i64 z)) none none).run Try.prog W = .ok (.slice (some ⟨b, k, none⟩) n n) W := by
  subst hz hn
  have h : Try.prog.arrayLen 32 = 20 := by kernel_rfl
  have hs : ∀ w, (Go.sizeOf (Try.prog.elem 32)).run Try.prog w = .ok 1 w := fun _ => by kernel_rfl
  have ht : Try.prog.underlying 32 = some (.array (Try.prog.arrayLen 32) (Try.prog.elem 32)) := by kernel_rfl
  rw [run_sliceAt_array_l W _ _ ht .i64 k (by omega) (by omega), hs, h]
  have e : (⟨b, 0, none⟩ : Addr).add k = ⟨b, k, none⟩ := by unfold Addr.add; split <;> simp_all
  simp only [Result.andThen_ok, slicedAt, Int.toNat_natCast, Nat.mul_one, e]
  rw [if_neg (by omega)]

theorem conv_text (w : World) (A : Array Value) (l : List UInt8) (k n : Nat) (hn : n = l.length) (hc : ∀ j (h : j < l.length), A[k + j]? = some (.int .u8 (l[j].toNat : Int))) :
    (convert 34 9 (.slice (some ⟨w.heap.size, k, none⟩) n n)).run Try.prog (w.alloc (.cells A 32)) = .ok (.string ⟨l.toArray⟩) (w.alloc (.cells A 32)) := by
  subst hn
  refine run_convert_bytes_back _ 34 9 5 _ _ l Try.underlying34 Try.underlying5 Try.underlying9 fun j hj => ?_
  have e : (⟨w.heap.size, k, none⟩ : Addr).add j = ⟨w.heap.size, k + j, none⟩ := by unfold Addr.add; split <;> simp_all
  rw [← hc j hj, e, World.cell?_alloc_new]

theorem print_next {n : Int} {m left k : Nat} {tail : List UInt8} {A : Array Value} (w : World) (hl64 : left < 18446744073709551616) (h10 : ¬ left < 10) (hA : A.size = 20) (hk : k + 2 + tail.length = 20)
    (hc : ∀ j (h : j < (UInt8.ofNat (48 + left % 10) :: tail).length), (A.setIfInBounds (k + 1) (.int .u8 (48 + (left : Int) % 10)))[k + 1 + j]? = some (.int .u8 ((UInt8.ofNat (48 + left % 10) :: tail)[j].toNat : Int)))
    (hl : left < 10 ^ (k + 1)) (hd : digs m = digs left ++ tail) {u6 u7 u8 u9 u10 u11 u12 u13 u14 u15 u16 u17 u18 u19 u20 u21 u22 u23 : Value} :
    PrintJ n m w { tmps := #[.int .i64 n, undef, .string ⟨#[]⟩, .pointer (some ⟨w.heap.size, 0, none⟩), .int .i64 ((k : Int) + 1), .int .u64 ((left : Int) / 10), u6, u7, u8, u9, u10, u11, u12, u13, u14, u15, u16, u17, u18, u19, u20, u21, u22, u23, undef, undef, undef, undef, undef, undef, undef, undef, undef], defers := [] } (w.alloc (.cells (A.setIfInBounds (k + 1) (.int .u8 (48 + (left : Int) % 10))) 32)) := by
  have hk1 : 1 ≤ k := by
    rcases Nat.eq_zero_or_pos k with rfl | h
    · simp at hl; omega
    · exact h
  obtain ⟨j, rfl⟩ : ∃ j, k = j + 1 := ⟨k - 1, by omega⟩
  refine ⟨left / 10, j, UInt8.ofNat (48 + left % 10) :: tail, _, u6, u7, u8, u9, u10, u11, u12, u13, u14, u15, u16, u17, u18, u19, u20, u21, u22, u23, rfl, rfl, by simpa using hA, by simp; omega, hc, ?_, by omega, ?_⟩
  · rw [Nat.div_lt_iff_lt_mul (by omega)]; exact hl
  · rw [hd, digs_step h10]; simp

set_option maxHeartbeats 400000 in
theorem print_neg (n : Int) (w : World) (h0 : n < 0) (h1 : -9223372036854775808 ≤ n) :
    Calls Try.prog 7 #[.int .i64 n] w fun e w' => e = .returned (.string ⟨(print n).toArray⟩) ∧ Below w.heap.size w w' := by
  have hwr : IntKind.u64.wrap (-IntKind.u64.wrap n) = (n.natAbs : Int) := by simp only [IntKind.wrap_u64]; omega
  go_enter Try.func7, Try.ntmps7
  go_wp2
  refine wp_scope_falls 0 (PrintJ n n.natAbs w) (fun a' _ => (intOf (a'.tmps.getD 5 undef)).toNat) rfl ?_ ?_
  · rintro a' w' ⟨left, k, tail, A, u6, u7, u8, u9, u10, u11, u12, u13, u14, u15, u16, u17, u18, u19, u20, u21, u22, u23, rfl, rfl, hA, hk, hc, hl, hl64, hd⟩
    clear hwr
    have hk20 : k < 19 := by omega
    have hts := tail_step (k := k + 1) hA hk hc (UInt8.ofNat (48 + left % 10)) _ (digit_nat left)
    obtain ⟨v0, hv0⟩ : ∃ v, A[k + 1]? = some v := ⟨_, Array.getElem?_eq_getElem (by omega)⟩
    by_cases h10 : left < 10
    · have h10' : (left : Int) / 10 = 0 := by omega
      obtain ⟨v1, hv1⟩ : ∃ v, (A.setIfInBounds (k + 1) (Value.int IntKind.u8 (48 + ↑left % 10)))[k]? = some v := ⟨_, Array.getElem?_eq_getElem (by simp; omega)⟩
      have hts2 := tail_step (k := k) (A := A.setIfInBounds (k + 1) (Value.int IntKind.u8 (48 + ↑left % 10))) (by simp [hA]) (by simp; omega) hts 45 45 rfl
      obtain ⟨N, hN⟩ : ∃ N, N = 20 - k := ⟨_, rfl⟩
      have hsl := fun b W => slice_text b W k k rfl (by omega) N hN
      have hcv := conv_text w _ _ k N (by simp; omega) hts2
      clear hN
      have HD := Lib.hid (show print n = 45 :: UInt8.ofNat (48 + left % 10) :: tail by
        rw [print, if_pos h0, hd, digs_small h10, Nat.mod_eq_of_lt h10]; rfl)
      clear hA hk hc hl hd hts hts2
      generalize (45 :: UInt8.ofNat (48 + left % 10) :: tail) = L at hcv HD
      go_wp2
      simp only [Exit.jump]
      go_ret
      refine ⟨by rw [HD.out]; rfl, (Below.refl _ _).alloc (Nat.le_refl _) _⟩
    · have h10' : 0 < (left : Int) / 10 := by omega
      have HA := Lib.hid hA
      have HK := Lib.hid hk
      have HC := Lib.hid hts
      have HLE := Lib.hid hl
      have HD := Lib.hid hd
      clear hA hk hc hl hd hts
      go_wp2
      go_step3
      refine ⟨rfl, ?_, ?_⟩
      · exact print_next w (by omega) h10 HA.out HK.out HC.out HLE.out HD.out
      · simp [intOf]
        omega
  intro HL
  go_wp2
  go_step3
  refine (‹∀ (a : Act) (w : World), Code.wp _ _ _ a w → _› : _) _ _ (HL.out _ _ ?_)
  have hdv : (n.natAbs) < 10 ^ 19 := by
    have : n.natAbs ≤ 9223372036854775808 := by omega
    exact Nat.lt_of_le_of_lt this (by decide)
  exact ⟨n.natAbs, 18, [], _, _, _, _, _, _, _, _, _, _, _, _, _, _, _, _, _, _, _, rfl, rfl, rfl, rfl, fun j h => absurd h (by simp), hdv, by omega, by simp⟩
set_option maxHeartbeats 400000 in
theorem print_pos (n : Int) (w : World) (h0 : ¬ n < 0) (h1 : n ≤ 9223372036854775807) :
    Calls Try.prog 7 #[.int .i64 n] w fun e w' => e = .returned (.string ⟨(print n).toArray⟩) ∧ Below w.heap.size w w' := by
  have hwr : IntKind.u64.wrap n = (n.natAbs : Int) := by simp only [IntKind.wrap_u64]; omega
  go_enter Try.func7, Try.ntmps7
  go_wp2
  refine wp_scope_falls 0 (PrintJ n n.natAbs w) (fun a' _ => (intOf (a'.tmps.getD 5 undef)).toNat) rfl ?_ ?_
  · rintro a' w' ⟨left, k, tail, A, u6, u7, u8, u9, u10, u11, u12, u13, u14, u15, u16, u17, u18, u19, u20, u21, u22, u23, rfl, rfl, hA, hk, hc, hl, hl64, hd⟩
    clear hwr
    have hk20 : k < 19 := by omega
    have hts := tail_step (k := k + 1) hA hk hc (UInt8.ofNat (48 + left % 10)) _ (digit_nat left)
    obtain ⟨v0, hv0⟩ : ∃ v, A[k + 1]? = some v := ⟨_, Array.getElem?_eq_getElem (by omega)⟩
    by_cases h10 : left < 10
    · have h10' : (left : Int) / 10 = 0 := by omega
      obtain ⟨N, hN⟩ : ∃ N, N = 20 - (k + 1) := ⟨_, rfl⟩
      have hsl := fun b W => slice_text b W ((k : Int) + 1) (k + 1) rfl (by omega) N hN
      have hcv := conv_text w _ _ (k + 1) N (by simp; omega) hts
      clear hN
      have HD := Lib.hid (show print n = UInt8.ofNat (48 + left % 10) :: tail by
        rw [print, if_neg (by omega), hd, digs_small h10, Nat.mod_eq_of_lt h10]; rfl)
      clear hA hk hc hl hd hts
      generalize (UInt8.ofNat (48 + left % 10) :: tail) = L at hcv HD
      go_wp2
      simp only [Exit.jump]
      go_ret
      refine ⟨by rw [HD.out]; rfl, (Below.refl _ _).alloc (Nat.le_refl _) _⟩
    · have h10' : 0 < (left : Int) / 10 := by omega
      have HA := Lib.hid hA
      have HK := Lib.hid hk
      have HC := Lib.hid hts
      have HLE := Lib.hid hl
      have HD := Lib.hid hd
      clear hA hk hc hl hd hts
      go_wp2
      go_step3
      refine ⟨rfl, ?_, ?_⟩
      · exact print_next w (by omega) h10 HA.out HK.out HC.out HLE.out HD.out
      · simp [intOf]
        omega
  intro HL
  go_wp2
  go_step3
  refine (‹∀ (a : Act) (w : World), Code.wp _ _ _ a w → _› : _) _ _ (HL.out _ _ ?_)
  have hdv : (n.natAbs) < 10 ^ 19 := by
    have : n.natAbs ≤ 9223372036854775808 := by omega
    exact Nat.lt_of_le_of_lt this (by decide)
  exact ⟨n.natAbs, 18, [], _, _, _, _, _, _, _, _, _, _, _, _, _, _, _, _, _, _, _, rfl, rfl, rfl, rfl, fun j h => absurd h (by simp), hdv, by omega, by simp⟩
/-- num.Print: any number of an int64 is printed. -/
theorem print_any (n : Int) (w : World) (h0 : -9223372036854775808 ≤ n) (h1 : n ≤ 9223372036854775807) :
    Calls Try.prog 7 #[.int .i64 n] w fun e w' => e = .returned (.string (printB n)) ∧ Below w.heap.size w w' := by
  by_cases h : n < 0
  · exact print_neg n w h h0
  · exact print_pos n w h h1
end Go.Proofs.Ythnpfpgedlmpoaa
