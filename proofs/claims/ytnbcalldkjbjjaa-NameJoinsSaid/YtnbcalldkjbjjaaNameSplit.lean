/- The walk of name.Split. -/
import Derived.Test.YtnbcalldkjbjjaaNameScan
namespace Go.Proofs.Ytnbcalldkjbjjaa
open Go.RowKit Punnet.Name
set_option linter.unusedVariables false

theorem takeWhile_le (p : UInt8 → Bool) (l : List UInt8) : (l.takeWhile p).length ≤ l.length := by
  induction l with
  | nil => simp
  | cons b r ih => rw [List.takeWhile_cons]; split <;> simp <;> omega
theorem blankAt_bound (l : List UInt8) {k : Nat} (hk : k ≤ l.length) : k ≤ blankAt l k ∧ blankAt l k ≤ l.length := by
  unfold blankAt
  have h := takeWhile_le (fun b => decide (b.toNat ≠ 32)) (l.drop k)
  rw [List.length_drop] at h
  omega
theorem wordEnd_bound (l : List UInt8) {k : Nat} (hk : k ≤ l.length) : k ≤ wordEndOf l k ∧ wordEndOf l k ≤ l.length := by
  have hb := blankAt_bound l hk
  unfold wordEndOf
  cases hq : quotedAt l k with
  | none => exact hb
  | some p =>
    obtain ⟨t, e⟩ := p
    have := quotedAt_le hq
    simp only
    split
    · omega
    · exact hb

/-- The words of a line from a place on. -/
def splitB (s : ByteArray) (k : Nat) : List ByteArray :=
  if h : k ≤ s.size ∧ wordEndOf s.data.toList k < s.size then
    s.extract k (wordEndOf s.data.toList k) :: splitB s (wordEndOf s.data.toList k + 1)
  else [s.extract k (wordEndOf s.data.toList k)]
  termination_by s.size - k
  decreasing_by
    have h1 : s.data.toList.length = s.size := by simp
    have := wordEnd_bound s.data.toList (k := k) (by omega)
    omega

theorem splitB_last {s : ByteArray} {k : Nat} (h : ¬ wordEndOf s.data.toList k < s.size) : splitB s k = [s.extract k (wordEndOf s.data.toList k)] := by rw [splitB, dif_neg (fun x => h x.2)]
theorem splitB_more {s : ByteArray} {k : Nat} (hk : k ≤ s.size) (h : wordEndOf s.data.toList k < s.size) : splitB s k = s.extract k (wordEndOf s.data.toList k) :: splitB s (wordEndOf s.data.toList k + 1) := by rw [splitB, dif_pos ⟨hk, h⟩]

theorem str_info : (Try.prog.info? 9).map (fun i => (i.zero, i.size, i.bytes)) = some (some (.string ⟨#[]⟩), 1, 16) := by kernel_rfl
/-- Texts as cells. -/
def strsOf (l : List ByteArray) : List Value := l.map Value.string
theorem strsOf_snoc (l : List ByteArray) (b : ByteArray) : strsOf (l ++ [b]) = strsOf l ++ [.string b] := by simp [strsOf]

/-- A slice of texts in new memory. -/
def Words (w : World) (l : List ByteArray) (e : Ending) (w' : World) : Prop :=
  ∃ v, e = .returned v ∧ w'.ownsRow w.heap.size 9 1 v l.length (strsOf l) ∧ Below w.heap.size w w'

/-- What holds of name.Split at the head of a round. -/
def SplitRel (s : ByteArray) (w : World) (k : Nat) (v : Value) (W : List ByteArray) (w' : World) : Prop :=
  w'.ownsRow w.heap.size 9 1 v W.length (strsOf W) ∧ Below w.heap.size w w' ∧ splitB s 0 = W ++ splitB s k

theorem SplitRel.more {s : ByteArray} {w : World} {k : Nat} {v v' : Value} {W : List ByteArray} {w1 w2 w3 : World} (h : SplitRel s w k v W w1) (hk : k ≤ s.size) (he : wordEndOf s.data.toList k < s.size) (hb : Below w1.heap.size w1 w2)
    (ho : w3.ownsRow w.heap.size 9 1 v' (W.length + 1) (strsOf W ++ [.string (s.extract k (wordEndOf s.data.toList k))])) (hb2 : Below w.heap.size w2 w3) : SplitRel s w (wordEndOf s.data.toList k + 1) v' (W ++ [s.extract k (wordEndOf s.data.toList k)]) w3 := by
  obtain ⟨h1, h2, h3⟩ := h
  refine ⟨by rw [strsOf_snoc, List.length_append, List.length_singleton]; exact ho, (h2.trans (hb.mono h2.size)).trans hb2, ?_⟩
  rw [h3, splitB_more hk he]; simp
theorem SplitRel.done {s : ByteArray} {w : World} {k : Nat} {v v' : Value} {W : List ByteArray} {w1 w2 w3 : World} (h : SplitRel s w k v W w1) (he : ¬ wordEndOf s.data.toList k < s.size) (hb : Below w1.heap.size w1 w2)
    (ho : w3.ownsRow w.heap.size 9 1 v' (W.length + 1) (strsOf W ++ [.string (s.extract k (wordEndOf s.data.toList k))])) (hb2 : Below w.heap.size w2 w3) : Words w (splitB s 0) (.returned v') w3 := by
  obtain ⟨h1, h2, h3⟩ := h
  rw [h3, splitB_last he]
  exact ⟨v', rfl, by rw [strsOf_snoc, List.length_append, List.length_singleton]; exact ho, (h2.trans (hb.mono h2.size)).trans hb2⟩

set_option maxHeartbeats 1000000 in
theorem split_any (s : ByteArray) (w : World) (hs : s.size ≤ 16777216) : Calls Try.prog 8 #[.string s] w (Words w (splitB s 0)) := by
  obtain ⟨i0, hi0, hz0, hz1, hz2⟩ := info_parts str_info
  have hlen : s.data.toList.length = s.size := by simp
  have hml : s.size ≤ 9223372036854775807 := by omega
  have HL := Lib.hid hlen
  clear hlen
  go_enter Try.func8, Try.ntmps8
  go_wp2_with fail
  go_loopw [3, 4] (fun v i wr => ∃ (k : Nat) (W : List ByteArray), i = .int .i64 (k : Int) ∧ k ≤ s.size ∧ W.length ≤ k ∧ SplitRel s w k v W wr) (fun _ i _ => s.size - (intOf i).toNat)
  case atStart => exact ⟨0, [], rfl, Nat.zero_le _, Nat.le_refl _, ⟨rfl, .inl ⟨rfl, rfl⟩⟩, Below.refl _ _, by simp⟩
  case round =>
    obtain ⟨k, W, rfl, hk, hW, hr⟩ := hrel
    obtain ⟨e1, e2⟩ := wordEnd_bound s.data.toList (k := k) (by have := HL.out; omega)
    have e3 : wordEndOf s.data.toList k ≤ s.size := by have := HL.out; omega
    have E := Lib.hid (fun w => wordEnd_any s k w hs hk)
    have hown := Lib.hid hr.1
    have hbw := hr.2.1
    have HM := Lib.hid (fun he v' w2 w3 => SplitRel.more (v' := v') (w2 := w2) (w3 := w3) hr hk he)
    have HE := Lib.hid (fun he v' w2 w3 => SplitRel.done (v' := v') (w2 := w2) (w3 := w3) hr he)
    clear hr e2
    generalize wordEndOf s.data.toList k = n at *
    have hn1 : (k : Int) ≤ n := by omega
    have hn2 : (n : Int) ≤ s.size := by omega
    by_cases he : n < s.size
    · have b1 : ((n : Int) == (s.size : Int)) = false := beq_eq_false_iff_ne.2 (by omega)
      have HM := Lib.hid (HM.out he)
      clear HE
      go_wp2_with (first | (go_at_call 19; refine (E.out _).mono ?_; rintro e w1 ⟨rfl, hb1⟩) | (at_builtin; go_must (refine wpList_append_one rfl (.tmp 9) (.tmp 14) _ rfl w.heap.size 9 i0 _ 16 Try.underlying23 hi0 hz0 hz1 hz2 rfl 9 (.string (s.extract k n)) rfl _ W.length (strsOf W) rfl (own_later hown.out hb1) rfl (by simp only [maxLen]; omega) (by omega) (Nat.le_trans hbw.size hb1.size) ?_; intro v1 w2 ho1 hb2)))
      go_roundw
      case rel => exact ⟨n + 1, W ++ [s.extract k n], by go_num, by omega, by simp; omega, HM.out v1 w1 w2 hb1 ho1 hb2⟩
      case measure => simp [intOf]; omega
    · have b1 : ((n : Int) == (s.size : Int)) = true := beq_iff_eq.2 (by omega)
      have HE := Lib.hid (HE.out he)
      clear HM
      go_wp2_with (first | (go_at_call 19; refine (E.out _).mono ?_; rintro e w1 ⟨rfl, hb1⟩) | (at_builtin; go_must (refine wpList_append_one rfl (.tmp 9) (.tmp 14) _ rfl w.heap.size 9 i0 _ 16 Try.underlying23 hi0 hz0 hz1 hz2 rfl 9 (.string (s.extract k n)) rfl _ W.length (strsOf W) rfl (own_later hown.out hb1) rfl (by simp only [maxLen]; omega) (by omega) (Nat.le_trans hbw.size hb1.size) ?_; intro v1 w2 ho1 hb2)))
      go_ret
      exact HE.out v1 w1 w2 hb1 ho1 hb2

end Go.Proofs.Ytnbcalldkjbjjaa
