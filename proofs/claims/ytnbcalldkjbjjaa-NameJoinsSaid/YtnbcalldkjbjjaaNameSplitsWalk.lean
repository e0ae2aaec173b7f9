/- The walk of the law NameSplits. -/
import Derived.Test.YtnbcalldkjbjjaaNameAwake
namespace Go.Proofs.Ytnbcalldkjbjjaa
open Go.RowKit Punnet.Name
set_option linter.unusedVariables false

/-- Joined up to a place. -/
def joinTo (l : List ByteArray) (k : Nat) : List UInt8 := joinL (l.take k)
theorem joinL_snoc (l : List ByteArray) (b : ByteArray) (h : l ≠ []) : joinL (l ++ [b]) = joinL l ++ 32 :: b.data.toList := by
  induction l with
  | nil => exact absurd rfl h
  | cons a r ih =>
    cases r with
    | nil => rfl
    | cons c r =>
      have := ih (by simp)
      rw [List.cons_append, joinL_cons (l := c :: r ++ [b]) _ ⟨c, r ++ [b], rfl⟩, this, joinL_cons _ ⟨c, r, rfl⟩]; simp
theorem joinTo_succ {l : List ByteArray} {k : Nat} (h0 : 0 < k) (h : k < l.length) : joinTo l (k + 1) = joinTo l k ++ 32 :: l[k].data.toList := by
  unfold joinTo
  rw [List.take_succ_eq_append_getElem h, joinL_snoc _ _ (by
    intro e
    have := congrArg List.length e
    rw [List.length_take] at this; simp only [List.length_nil] at this; omega)]
theorem joinTo_one {l : List ByteArray} (h : 0 < l.length) : joinTo l 1 = l[0].data.toList := by
  match l, h with
  | a :: r, _ => rfl
theorem joinL_length (l : List ByteArray) (k : Nat) : (joinTo l k).length ≤ (joinL l).length := by
  unfold joinTo
  induction l generalizing k with
  | nil => simp
  | cons a r ih =>
    cases k with
    | zero => simp [joinL]
    | succ k =>
      rw [List.take_succ_cons]
      cases r with
      | nil => simp
      | cons b r =>
        rw [joinL_cons a ⟨b, r, rfl⟩]
        cases k with
        | zero => simp [joinL]
        | succ k =>
          rw [List.take_succ_cons, joinL_cons a ⟨b, _, rfl⟩]
          have := ih (k + 1)
          rw [List.take_succ_cons] at this
          simp; omega
theorem splitB_len (s : ByteArray) : ∀ (N k : Nat), s.size - k = N → k ≤ s.size → (splitB s k).length ≤ s.size - k + 1 := by
  intro N
  induction N using Nat.strongRecOn with
  | _ N ih =>
    intro k hN hk
    have hlen : s.data.toList.length = s.size := by simp
    obtain ⟨b1, b2⟩ := wordEnd_bound s.data.toList (k := k) (by omega)
    by_cases h : wordEndOf s.data.toList k < s.size
    · rw [splitB_more hk h, List.length_cons]
      have := ih (s.size - (wordEndOf s.data.toList k + 1)) (by omega) _ rfl (by omega)
      omega
    · rw [splitB_last h]; simp

theorem ba_snoc (a b c : List UInt8) (h : a = b ++ 32 :: c) : (⟨a.toArray⟩ : ByteArray) = ⟨b.toArray⟩ ++ ⟨#[32]⟩ ++ ⟨c.toArray⟩ := by
  subst h
  rw [ByteArray.ext_iff, ByteArray.data_append, ByteArray.data_append]; simp
theorem ba_data (b : ByteArray) : (⟨b.data.toList.toArray⟩ : ByteArray) = b := rfl

set_option maxHeartbeats 4000000 in
theorem nameSplits_walk (a0 : ByteArray) (w0 : a0.size ≤ maxLen) (w : World) :
    Calls Try.prog 3 #[.string a0] w fun e w' => e = .returned (.bool true) ∧ Below w.heap.size w w' := by
  unfold maxLen at w0
  by_cases hs : (500 : Int) < a0.size
  · go_enter Try.func3, Try.ntmps3
    go_wp2_with fail
    refine (nameAwake_any _).mono ?_
    rintro e w1 ⟨rfl, hb1⟩
    go_wp2_with fail
    go_ret
    exact ⟨rfl, hb1⟩
  have hs2 : a0.size ≤ 16777216 := by omega
  have hl := splitB_len a0 _ 0 rfl (by omega)
  have hj := join_split a0 _ 0 rfl (by omega)
  have hp : 0 < (splitB a0 0).length := by obtain ⟨a, r, h⟩ := splitB_ne a0 0; rw [h]; simp
  have SP := Lib.hid (fun w => split_any a0 w hs2)
  have RP := Lib.hid (fun w => refSplit_any a0 w hs2)
  have hjl : (joinL (splitB a0 0)).length ≤ 500 := by rw [hj]; simp; omega
  have HJ : Hid ((⟨(joinL (splitB a0 0)).toArray⟩ : ByteArray) = a0) := by
    show _ = _
    rw [hj, List.drop_zero]
  clear hj
  generalize splitB a0 0 = l at *
  have hl5 : l.length ≤ 501 := by omega
  clear hl
  have hb0 := joinL_length l
  go_enter Try.func3, Try.ntmps3
  go_wp2_with fail
  refine (nameAwake_any _).mono ?_
  rintro e w1 ⟨rfl, hb1⟩
  go_wp2_with fail
  refine (SP.out _).mono ?_
  rintro e w2 ⟨v, rfl, ho2, hb2⟩
  have HO2 := Lib.hid ho2
  obtain ⟨g, cap, rfl, hg, hc⟩ := row_cells ho2 hp
  have HC := Lib.hid hc
  clear hc ho2
  go_wp2_with fail
  refine (RP.out _).mono ?_
  rintro e w3 ⟨v3, rfl, ho3, hb3⟩
  have HO3 := Lib.hid ho3
  clear ho3
  go_wp2_with fail
  refine (same_any l _ v3 _ _ _ (by omega) (own_later HO2.out hb3) HO3.out).mono ?_
  rintro e w4 ⟨rfl, q, rfl⟩
  have hne : ((l.length : Int) == 0) = false := beq_eq_false_iff_ne.2 (by omega)
  have HC4 : Hid (∀ (j : Nat) (hj : j < l.length), (w3.drewN q).cell? ⟨g, j, none⟩ = some (.string l[j])) := by
    intro j hj
    have h2 := HC.out j hj
    rw [World.cell?_drewN, hb3.cell (World.block_lt_of_cell? w2 _ h2)]; exact h2
  clear HC
  have hc0 := HC4.out 0 hp
  have hlp : (0 : Int) < (l.length : Int) := by omega
  have hbb : Below w.heap.size w (w3.drewN q) := by
    have h4 : Below w3.heap.size w3 (w3.drewN q) := ⟨rfl, rfl, rfl, Nat.le_refl _, fun _ _ => rfl⟩
    repeat (first | exact Below.refl _ _ | assumption | refine below_two ?_ (by assumption))
  generalize w3.drewN q = w4 at *
  go_wp2_with fail
  go_loop [4, 5] (fun t i => ∃ k : Nat, 0 < k ∧ k ≤ l.length ∧ i = .int .i64 (k : Int) ∧ t = .string ⟨(joinTo l k).toArray⟩) (fun _ i => l.length - (intOf i).toNat)
  case atStart => exact ⟨1, by omega, by omega, rfl, by rw [joinTo_one hp]⟩
  case round =>
    obtain ⟨k, h0, hk, rfl, rfl⟩ := hrel
    by_cases hlt : k < l.length
    · have hlt' : (k : Int) < l.length := by omega
      have hck := HC4.out k hlt
      have HN : Hid ((⟨(joinTo l (k + 1)).toArray⟩ : ByteArray) = ⟨(joinTo l k).toArray⟩ ++ ⟨#[32]⟩ ++ l[k]) := by
        show _ = _
        rw [ba_snoc _ _ _ (joinTo_succ h0 hlt)]
      have z1 : (⟨(joinTo l k).toArray⟩ : ByteArray).size ≤ 500 := by have := hb0 k; simp [ByteArray.size]; omega
      have z2 : l[k].size ≤ 500 := by
        have := hb0 (k + 1); rw [joinTo_succ h0 hlt] at this; simp at this; omega
      clear hb0
      generalize hq : (⟨(joinTo l k).toArray⟩ : ByteArray) = q at *
      have HQ := Lib.hid hq
      clear hq
      go_wp2_with fail
      go_round
      case rel => exact ⟨k + 1, by omega, by omega, by go_num, by rw [HN.out]⟩
      case measure => simp [intOf]; omega
    · have hlt' : ¬ (k : Int) < l.length := by omega
      have HE : Hid ((⟨(joinTo l k).toArray⟩ : ByteArray) = a0) := by
        show _ = _
        rw [← HJ.out]; unfold joinTo; rw [List.take_of_length_le (by omega)]
      rw [HE.out]
      clear hb0
      go_wp2_with fail
      go_ret
      exact ⟨rfl, hbb⟩
end Go.Proofs.Ytnbcalldkjbjjaa
