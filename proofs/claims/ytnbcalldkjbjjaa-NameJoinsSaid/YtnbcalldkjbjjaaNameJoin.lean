/- What is quoted is read, what is split is joined: plain. -/
import Derived.Test.YtnbcalldkjbjjaaNameScans
namespace Go.Proofs.Ytnbcalldkjbjjaa
open Go.RowKit Punnet.Name
set_option linter.unusedVariables false

theorem drop_lt {l m : List UInt8} {k : Nat} {c : UInt8} (h : l.drop k = c :: m) : k < l.length := by
  rcases Nat.lt_or_ge k l.length with h1 | h1
  · exact h1
  · rw [List.drop_eq_nil_of_le h1] at h; cases h
theorem drop_get {l m : List UInt8} {k : Nat} {c : UInt8} (h : l.drop k = c :: m) : l[k]'(drop_lt h) = c := by
  have := List.drop_eq_getElem_cons (drop_lt h)
  rw [h] at this; injection this with h1 _; exact h1.symm
theorem drop_more {l m r : List UInt8} {k : Nat} (h : l.drop k = m ++ r) : l.drop (k + m.length) = r := by
  rw [← List.drop_drop, h, List.drop_append_of_le_length (Nat.le_refl _), List.drop_length]; rfl

theorem signOf_head (c : UInt8) : ∃ x r, signOf c = x :: r ∧ x.toNat ≠ 34 := by
  unfold signOf
  cases hp : plainB c with
  | true => exact ⟨c, [], rfl, (plain_ne hp).2⟩
  | false => exact ⟨92, _, rfl, by decide⟩

theorem bodyAt_quote {l r : List UInt8} : ∀ (t : List UInt8) (k : Nat), l.drop k = t.flatMap signOf ++ 34 :: r → bodyAt l k = some (t, k + (t.flatMap signOf).length + 1) := by
  intro t
  induction t with
  | nil =>
    intro k h
    have h' : l.drop k = 34 :: r := by simpa using h
    rw [bodyAt_end (drop_lt h') (by rw [drop_get h']; rfl)]; rfl
  | cons c t ih =>
    intro k h
    rw [List.flatMap_cons, List.append_assoc] at h
    obtain ⟨x, m, hx, hx34⟩ := signOf_head c
    have hc : l.drop k = x :: (m ++ (t.flatMap signOf ++ 34 :: r)) := by rw [h, hx]; rfl
    have hs : sign (l.drop k) = some (c, (signOf c).length - 1) := by rw [h]; exact sign_signOf c _
    have hp := signOf_pos c
    rw [bodyAt_some (drop_lt hc) (by rw [drop_get hc]; exact hx34) hs, show k + ((signOf c).length - 1) + 1 = k + (signOf c).length by omega, ih _ (drop_more h)]
    simp [List.flatMap_cons]; omega

theorem quotedAt_quote {l r : List UInt8} (t : List UInt8) (k : Nat) (h : l.drop k = quoteL t ++ r) : quotedAt l k = some (t, k + (quoteL t).length) := by
  unfold quoteL at h
  have h1 : l.drop k = 34 :: (t.flatMap signOf ++ 34 :: r) := by rw [h]; simp
  unfold quotedAt
  rw [dif_pos (drop_lt h1), if_pos (by rw [drop_get h1]; rfl), bodyAt_quote (r := r) t (k + 1) (drop_more (m := [34]) (by rw [h1]; rfl))]
  unfold quoteL; simp; omega

theorem bodyAt_inv {l : List UInt8} : ∀ (N k : Nat) (t : List UInt8) (n : Nat), l.length - k = N → bodyAt l k = some (t, n) → l.drop k = t.flatMap signOf ++ 34 :: l.drop n ∧ n = k + (t.flatMap signOf).length + 1 := by
  intro N
  induction N using Nat.strongRecOn with
  | _ N ih =>
    intro k t n hN h
    by_cases hk : k < l.length
    · by_cases hq : l[k].toNat = 34
      · rw [bodyAt_end hk hq] at h
        injection h with h; injection h with h1 h2; subst h1; subst h2
        refine ⟨?_, by simp⟩
        rw [List.drop_eq_getElem_cons hk]
        have : l[k] = 34 := by rw [← UInt8.toNat_inj, hq]; rfl
        simp [this]
      · cases hs : sign (l.drop k) with
        | none => rw [bodyAt_none hk hq hs] at h; cases h
        | some p =>
          obtain ⟨c, m⟩ := p
          rw [bodyAt_some hk hq hs] at h
          cases hb : bodyAt l (k + m + 1) with
          | none => rw [hb] at h; cases h
          | some p =>
            obtain ⟨t', n'⟩ := p
            rw [hb] at h
            simp only [Option.map_some] at h
            injection h with h; injection h with h1 h2; subst h1; subst h2
            have hi := ih (l.length - (k + m + 1)) (by omega) (k + m + 1) t' n' rfl hb
            obtain ⟨r, hr, hm⟩ := sign_inv hs
            have hd := drop_more hr
            rw [show k + (signOf c).length = k + m + 1 by omega] at hd
            refine ⟨?_, by rw [List.flatMap_cons, List.length_append]; omega⟩
            rw [hr, ← hd, hi.1, List.flatMap_cons, List.append_assoc]
    · rw [bodyAt_out hk] at h; cases h

theorem quotedAt_inv {l : List UInt8} {k n : Nat} {t : List UInt8} (h : quotedAt l k = some (t, n)) : l.drop k = quoteL t ++ l.drop n ∧ n = k + (quoteL t).length := by
  unfold quotedAt at h
  split at h
  · rename_i hk
    split at h
    · rename_i hq
      obtain ⟨h1, h2⟩ := bodyAt_inv _ _ _ _ rfl h
      have : l[k] = 34 := by rw [← UInt8.toNat_inj, hq]; rfl
      refine ⟨?_, by unfold quoteL; rw [List.length_cons, List.length_append, List.length_singleton]; omega⟩
      rw [List.drop_eq_getElem_cons hk, h1, this]; unfold quoteL; simp
    · cases h
  · cases h

/-! ### Where a word ends there is a blank, or nothing. -/
theorem blankAt_stop (l : List UInt8) (k : Nat) (h : blankAt l k < l.length) : l[blankAt l k] = 32 := by
  unfold blankAt at *
  generalize hp : (fun b : UInt8 => decide (b.toNat ≠ 32)) = p at *
  have key : ∀ (m : List UInt8) (h : (m.takeWhile p).length < m.length), p (m[(m.takeWhile p).length]) = false := by
    intro m
    induction m with
    | nil => intro h; simp at h
    | cons a m ih =>
      intro h
      cases ha : p a with
      | true =>
        rw [List.takeWhile_cons, if_pos ha] at h
        simp only [List.takeWhile_cons, ha, if_true, List.length_cons, List.getElem_cons_succ]
        exact ih (by simpa using h)
      | false => simp only [List.takeWhile_cons, ha]; simpa using ha
  have h1 : ((l.drop k).takeWhile p).length < (l.drop k).length := by rw [List.length_drop]; omega
  have h2 := key _ h1
  rw [List.getElem_drop] at h2
  have h3 : ∀ c : UInt8, p c = false → c = 32 := by
    intro c hc
    rw [← hp] at hc
    simp only [decide_eq_false_iff_not, ne_eq, Decidable.not_not] at hc
    rw [← UInt8.toNat_inj, hc]; rfl
  exact h3 _ h2

theorem wordEnd_stop (l : List UInt8) (k : Nat) (h : wordEndOf l k < l.length) : l[wordEndOf l k] = 32 := by
  have hb := fun h => blankAt_stop l k h
  unfold wordEndOf at *
  split at h
  · rename_i x t e hq
    by_cases hc : e = l.length ∨ l[e]? = some 32
    · have e1 : (if e = l.length ∨ l[e]? = some 32 then e else blankAt l k) = e := if_pos hc
      simp only [e1] at h ⊢
      rcases hc with hc | hc
      · omega
      · rw [List.getElem?_eq_getElem h] at hc; injection hc
    · have e1 : (if e = l.length ∨ l[e]? = some 32 then e else blankAt l k) = blankAt l k := if_neg hc
      simp only [e1] at h ⊢
      exact hb h
  · exact hb h

/-- With a blank between each two. -/
def joinL : List ByteArray → List UInt8
  | [] => []
  | [a] => a.data.toList
  | a :: b :: r => a.data.toList ++ 32 :: joinL (b :: r)

theorem splitB_ne (s : ByteArray) (k : Nat) : ∃ a r, splitB s k = a :: r := by
  rw [splitB]; split
  · exact ⟨_, _, rfl⟩
  · exact ⟨_, _, rfl⟩
theorem joinL_cons (a : ByteArray) {l : List ByteArray} (h : ∃ b r, l = b :: r) : joinL (a :: l) = a.data.toList ++ 32 :: joinL l := by
  obtain ⟨b, r, rfl⟩ := h; rfl

theorem join_split (s : ByteArray) : ∀ (N k : Nat), s.size - k = N → k ≤ s.size → joinL (splitB s k) = s.data.toList.drop k := by
  have hlen : s.data.toList.length = s.size := by simp
  intro N
  induction N using Nat.strongRecOn with
  | _ N ih =>
    intro k hN hk
    obtain ⟨b1, b2⟩ := wordEnd_bound s.data.toList (k := k) (by omega)
    have hst := wordEnd_stop s.data.toList k
    by_cases h : wordEndOf s.data.toList k < s.size
    · rw [splitB_more hk h, joinL_cons _ (splitB_ne _ _), ih (s.size - (wordEndOf s.data.toList k + 1)) (by omega) _ rfl (by omega), Lib.extract_data]
      have h1 := List.drop_eq_getElem_cons (l := s.data.toList) (i := wordEndOf s.data.toList k) (by omega)
      rw [hst (by omega)] at h1
      rw [← h1]
      have h2 := List.take_append_drop (wordEndOf s.data.toList k - k) (s.data.toList.drop k)
      rw [List.drop_drop, show k + (wordEndOf s.data.toList k - k) = wordEndOf s.data.toList k by omega] at h2
      exact h2
    · rw [splitB_last h]
      show (s.extract k (wordEndOf s.data.toList k)).data.toList = _
      rw [Lib.extract_data, List.take_of_length_le (by rw [List.length_drop]; omega)]
end Go.Proofs.Ytnbcalldkjbjjaa
