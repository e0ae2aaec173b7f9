/- Plain laws of decimal digits: what is printed is read, what is read is printed, more digits are more. -/
import Derived.Test.YthnpfpgedlmpoaaNumPlain
import GoSem.Op.String
namespace Punnet.Num
open Go

theorem natOf_nil : natOf [] = 0 := rfl
theorem foldl_add (r : List UInt8) : ∀ a : Nat, r.foldl (fun a b => 10 * a + (b.toNat - 48)) a = a * 10 ^ r.length + natOf r := by
  induction r with
  | nil => intro a; simp [natOf]
  | cons b r ih =>
    intro a
    have e : natOf (b :: r) = (10 * 0 + (b.toNat - 48)) * 10 ^ r.length + natOf r := by rw [← ih]; rfl
    rw [List.foldl_cons, ih, e, List.length_cons, Nat.pow_succ]
    simp only [Nat.mul_zero, Nat.zero_add, Nat.add_mul]
    rw [Nat.mul_comm 10 a, Nat.mul_assoc, Nat.mul_comm 10 (10 ^ r.length)]
    omega
theorem natOf_cons (b : UInt8) (r : List UInt8) : natOf (b :: r) = (b.toNat - 48) * 10 ^ r.length + natOf r := by
  rw [natOf, List.foldl_cons, foldl_add]; simp

/-- All bytes are digits. -/
def Digits (l : List UInt8) : Prop := ∀ b ∈ l, 48 ≤ b.toNat ∧ b.toNat ≤ 57

theorem Digits.tail {b : UInt8} {r : List UInt8} (h : Digits (b :: r)) : Digits r := fun x hx => h x (List.mem_cons_of_mem _ hx)
theorem Digits.head {b : UInt8} {r : List UInt8} (h : Digits (b :: r)) : 48 ≤ b.toNat ∧ b.toNat ≤ 57 := h b (List.mem_cons_self)
theorem Digits.append {x y : List UInt8} (hx : Digits x) (hy : Digits y) : Digits (x ++ y) := fun b hb => (List.mem_append.1 hb).elim (hx b) (hy b)
theorem Digits.left {x y : List UInt8} (h : Digits (x ++ y)) : Digits x := fun b hb => h b (List.mem_append.2 (.inl hb))

theorem natOf_lt {l : List UInt8} (h : Digits l) : natOf l < 10 ^ l.length := by
  induction l with
  | nil => simp [natOf]
  | cons b r ih =>
    have h1 := ih h.tail
    have h2 := h.head
    rw [natOf_cons, List.length_cons, Nat.pow_succ]
    have : (b.toNat - 48) * 10 ^ r.length ≤ 9 * 10 ^ r.length := Nat.mul_le_mul_right _ (by omega)
    omega

theorem lex_nat : ∀ {x y : List UInt8}, x.length = y.length → Digits x → Digits y → Op.bytesLess x y = decide (natOf x < natOf y)
  | [], [], _, _, _ => by simp [Op.bytesLess]
  | [], _ :: _, h, _, _ => by simp at h
  | _ :: _, [], h, _, _ => by simp at h
  | a :: x, b :: y, h, hx, hy => by
    have hl : x.length = y.length := by simpa using h
    have ih := lex_nat hl hx.tail hy.tail
    have h1 := natOf_lt hx.tail
    have h2 := natOf_lt hy.tail
    have ha := hx.head
    have hb := hy.head
    rw [Op.bytesLess, ih, natOf_cons, natOf_cons, hl]
    rw [hl] at h1
    have hab : (a == b) = decide (a.toNat = b.toNat) := by
      by_cases e : a = b
      · subst e; simp
      · rw [beq_eq_false_iff_ne.2 e]; symm; rw [decide_eq_false_iff_not]; intro h; exact e (UInt8.toNat_inj.1 h)
    rw [hab]
    have hlt : (decide (a < b)) = decide (a.toNat < b.toNat) := by simp [UInt8.lt_iff_toNat_lt]
    rw [hlt]
    rcases Nat.lt_trichotomy a.toNat b.toNat with hc | hc | hc
    · have : (a.toNat - 48 + 1) * 10 ^ y.length ≤ (b.toNat - 48) * 10 ^ y.length := Nat.mul_le_mul_right _ (by omega)
      rw [Nat.add_mul] at this
      simp [hc]
      omega
    · have e : a.toNat - 48 = b.toNat - 48 := by omega
      simp [hc]
    · have : (b.toNat - 48 + 1) * 10 ^ y.length ≤ (a.toNat - 48) * 10 ^ y.length := Nat.mul_le_mul_right _ (by omega)
      rw [Nat.add_mul] at this
      have hn : ¬ a.toNat < b.toNat := by omega
      have hne : ¬ a.toNat = b.toNat := by omega
      simp [hn, hne]
      omega

theorem digit_toNat (d : Nat) (h : d < 10) : (UInt8.ofNat (48 + d)).toNat = 48 + d := by
  rw [UInt8.toNat_ofNat']; omega

theorem digs_digits (m : Nat) : Digits (digs m) := by
  induction m using Nat.strongRecOn with
  | _ m ih =>
    by_cases h : m < 10
    · rw [digs_small h]
      intro b hb
      simp only [List.mem_singleton] at hb
      subst hb
      rw [digit_toNat m h]; omega
    · rw [digs_step h]
      refine (ih _ (by omega)).append fun b hb => ?_
      simp only [List.mem_singleton] at hb
      subst hb
      rw [digit_toNat _ (by omega)]; omega

theorem natOf_digs (m : Nat) : natOf (digs m) = m := by
  induction m using Nat.strongRecOn with
  | _ m ih =>
    by_cases h : m < 10
    · rw [digs_small h, natOf_cons, digit_toNat m h]; simp [natOf]
    · rw [digs_step h, natOf_snoc, ih _ (by omega), digit_toNat _ (by omega)]; omega

theorem digs_low (m : Nat) (h : 10 ≤ m) : 10 ^ ((digs m).length - 1) ≤ m := by
  induction m using Nat.strongRecOn with
  | _ m ih =>
    rw [digs_step (by omega)]
    rw [List.length_append, List.length_singleton, Nat.add_sub_cancel]
    by_cases h2 : m / 10 < 10
    · rw [digs_small h2]; simp; omega
    · have := ih (m / 10) (by omega) (by omega)
      have hp : 0 < (digs (m / 10)).length := List.length_pos_iff.2 (digs_ne _)
      obtain ⟨k, hk⟩ : ∃ k, (digs (m / 10)).length = k + 1 := ⟨_, (Nat.succ_pred_eq_of_pos hp).symm⟩
      rw [hk] at this ⊢
      rw [Nat.pow_succ]
      simp only [Nat.add_sub_cancel] at this
      omega

theorem digs_len_mono {a b : Nat} (h : (digs a).length < (digs b).length) : a < b := by
  have hb : 10 ≤ b := by
    rcases Nat.lt_or_ge b 10 with hlt | hge
    · rw [digs_small hlt] at h
      have : 0 < (digs a).length := List.length_pos_iff.2 (digs_ne _)
      simp at h
      exact absurd h (digs_ne a)
    · exact hge
  have h1 := digs_low b hb
  have h2 := natOf_lt (digs_digits a)
  rw [natOf_digs] at h2
  have h3 : 10 ^ (digs a).length ≤ 10 ^ ((digs b).length - 1) := Nat.pow_le_pow_right (by omega) (by omega)
  omega

theorem digs_lex {a b : Nat} (h : (digs a).length = (digs b).length) : Op.bytesLess (digs a) (digs b) = decide (a < b) := by
  rw [lex_nat h (digs_digits a) (digs_digits b), natOf_digs, natOf_digs]

theorem natOf_pos {b : UInt8} {r : List UInt8} (h : Digits (b :: r)) (hb : b ≠ 48) : 0 < natOf (b :: r) := by
  have h1 := h.head
  have h2 : b.toNat ≠ 48 := fun e => hb (UInt8.toNat_inj.1 e)
  rw [natOf_cons]
  have : 0 < (b.toNat - 48) * 10 ^ r.length := Nat.mul_pos (by omega) (Nat.pow_pos (by omega))
  omega

theorem digs_natOf_snoc (n : Nat) : ∀ {l : List UInt8}, l.length = n → Digits l → l ≠ [] → (l.head? = some 48 → l.length = 1) → digs (natOf l) = l := by
  induction n with
  | zero => intro l hl _ hne _; exact absurd (List.length_eq_zero_iff.1 hl) hne
  | succ n ih =>
    intro l hl hd hne hz
    obtain ⟨r, b, rfl⟩ : ∃ r b, l = r ++ [b] := ⟨_, _, (List.dropLast_concat_getLast hne).symm⟩
    have hb : 48 ≤ b.toNat ∧ b.toNat ≤ 57 := hd b (by simp)
    have hr : r.length = n := by simpa using hl
    have e48 : UInt8.ofNat (48 + (b.toNat - 48)) = b := by
      rw [show 48 + (b.toNat - 48) = b.toNat by omega]; simp
    rw [natOf_snoc]
    cases r with
    | nil =>
      rw [natOf_nil, digs_small (by omega), Nat.mul_zero, Nat.zero_add, e48]; rfl
    | cons h t =>
      have hh : h ≠ 48 := by
        rintro rfl
        have := hz rfl
        simp at this
      have hp := natOf_pos hd.left hh
      rw [digs_step (by omega), show (10 * natOf (h :: t) + (b.toNat - 48)) / 10 = natOf (h :: t) by omega, show (10 * natOf (h :: t) + (b.toNat - 48)) % 10 = b.toNat - 48 by omega, e48,
        ih hr hd.left (by simp) (fun e => by simp at e; exact absurd e hh)]

theorem digs_natOf {l : List UInt8} (hd : Digits l) (hne : l ≠ []) (hz : l.head? = some 48 → l.length = 1) : digs (natOf l) = l := digs_natOf_snoc _ rfl hd hne hz

theorem digs_head {m : Nat} (h : (digs m).head? = some 48) : m = 0 := by
  have hd := digs_digits m
  have hn := natOf_digs m
  have hs : m < 10 ∨ ¬ m < 10 := by omega
  rcases hs with hs | hs
  · rw [digs_small hs] at h
    simp only [List.head?_cons, Option.some.injEq] at h
    have := congrArg UInt8.toNat h
    rw [digit_toNat m hs] at this
    have e : (48 : UInt8).toNat = 48 := rfl
    omega
  · exfalso
    have hl := digs_low m (by omega)
    revert h hd hn hl
    have hlen : 2 ≤ (digs m).length := by
      rw [digs_step hs]
      have : 0 < (digs (m / 10)).length := List.length_pos_iff.2 (digs_ne _)
      simp
      omega
    revert hlen
    generalize digs m = l
    intro hlen h hd hn hl
    cases l with
    | nil => simp at h
    | cons b r =>
      simp at h
      subst h
      rw [natOf_cons] at hn
      have e : (48 : UInt8).toNat - 48 = 0 := rfl
      rw [e, Nat.zero_mul, Nat.zero_add] at hn
      have := natOf_lt hd.tail
      rw [List.length_cons, Nat.add_sub_cancel] at hl
      omega

theorem digs_len {m k : Nat} (h : m < 10 ^ k) (hk : 0 < k) : (digs m).length ≤ k := by
  rcases Nat.lt_or_ge m 10 with h1 | h1
  · rw [digs_small h1]; exact hk
  · have h2 := digs_low m h1
    rcases Nat.lt_or_ge k (digs m).length with h3 | h3
    · have : 10 ^ k ≤ 10 ^ ((digs m).length - 1) := Nat.pow_le_pow_right (by omega) (by omega)
      omega
    · exact h3

/-- The digits of m are those of L and behind them the tail; of 0 none. -/
def LeftOf (m L : Nat) (tail : List UInt8) : Prop := digs m = if L = 0 then tail else digs L ++ tail

theorem LeftOf.start {m : Nat} (h : m ≠ 0) : LeftOf m m [] := by rw [LeftOf, if_neg h]; simp
theorem LeftOf.next {m L : Nat} {tail : List UInt8} (h : LeftOf m L tail) (hL : L ≠ 0) : LeftOf m (L / 10) (UInt8.ofNat (48 + L % 10) :: tail) := by
  rw [LeftOf, if_neg hL] at h
  rw [LeftOf, h]
  by_cases h1 : L < 10
  · rw [if_pos (by omega), digs_small h1, Nat.mod_eq_of_lt h1]; rfl
  · rw [if_neg (by omega), digs_step h1]; simp
theorem LeftOf.done {m : Nat} {tail : List UInt8} (h : LeftOf m 0 tail) : digs m = tail := h
theorem LeftOf.len {m L k : Nat} {tail : List UInt8} (h : LeftOf m L tail) (hm : m < 10 ^ k) (hk : 0 < k) : tail.length ≤ k := by
  have h1 := digs_len hm hk
  rw [h] at h1
  split at h1
  · exact h1
  · rw [List.length_append] at h1; omega

/-- Is a text digits, with a '-' ahead or none, without a 0 ahead? -/
def wordOf (l : List UInt8) : Bool := decide (neg l < l.length) && (l.drop (neg l)).all dig && !(decide ((l.drop (neg l)).head? = some 48) && decide (l ≠ [48]))

/-- What a text is that is a word of digits. -/
structure IsWord (l : List UInt8) : Prop where
  some_ : neg l < l.length
  digits : Digits (l.drop (neg l))
  zero : (l.drop (neg l)).head? = some 48 → neg l = 0 ∧ l.length = 1

theorem isWord {l : List UInt8} (h : wordOf l = true) : IsWord l := by
  simp only [wordOf, Bool.and_eq_true, decide_eq_true_iff, Bool.not_eq_true', Bool.and_eq_false_iff, decide_eq_false_iff_not, ne_eq, Decidable.not_not] at h
  obtain ⟨⟨h1, h2⟩, h3⟩ := h
  refine ⟨h1, fun b hb => ?_, fun h => ?_⟩
  · have := List.all_eq_true.1 h2 b hb
    simpa [dig] using this
  · rcases h3 with h3 | h3
    · exact absurd h h3
    · subst h3; exact ⟨rfl, rfl⟩

theorem dig_of_digits {l : List UInt8} (h : Digits l) : l.all dig = true := by
  rw [List.all_eq_true]; intro b hb; simpa [dig] using h b hb

theorem takeWhile_of_all {p : UInt8 → Bool} {l : List UInt8} (h : l.all p = true) : (l.takeWhile p).length = l.length := by
  induction l with
  | nil => rfl
  | cons b r ih =>
    simp only [List.all_cons, Bool.and_eq_true] at h
    rw [List.takeWhile_cons, if_pos h.1, List.length_cons, List.length_cons, ih h.2]

theorem IsWord.piece {l : List UInt8} (h : IsWord l) : pieceLen l = l.length := by
  have h1 := h.some_
  rw [pieceLen, takeWhile_of_all (dig_of_digits h.digits), List.length_drop, if_neg (by omega)]
  omega

theorem IsWord.read {l : List UInt8} (h : IsWord l) : readOf l = if neg l = 1 then (if 9223372036854775808 < natOf (l.drop (neg l)) then (0, 3) else (-(natOf (l.drop (neg l)) : Int), 0))
    else (if 9223372036854775807 < natOf (l.drop (neg l)) then (0, 3) else ((natOf (l.drop (neg l)) : Int), 0)) := by
  have h1 := h.some_
  rw [readOf, h.piece, if_neg (by omega), valueOf, if_neg]
  rintro ⟨hz, ho⟩
  obtain ⟨e1, e2⟩ := h.zero hz
  rw [List.length_drop] at ho
  omega

theorem read_no_word {l : List UInt8} (h : wordOf l = false) : readOf l = (0, 4) := by
  rw [readOf]
  by_cases hp : pieceLen l = 0 ∨ pieceLen l ≠ l.length
  · rw [if_pos hp]
  · rw [if_neg hp, valueOf, if_pos]
    have hp2 : pieceLen l = l.length := by omega
    have hl : 0 < l.length := by omega
    have hg := piece_gt hp2 hl
    have ha : (l.drop (neg l)).all dig = true := by
      rw [List.all_eq_true]
      intro b hb
      obtain ⟨j, hj, rfl⟩ := List.getElem_of_mem hb
      rw [List.length_drop] at hj
      rw [List.getElem_drop]
      exact piece_digs hp2 hl _ (by omega) (by omega)
    rw [wordOf, decide_eq_true hg, ha] at h
    simp only [Bool.and_self, Bool.true_and, Bool.not_eq_false', Bool.and_eq_true, decide_eq_true_iff] at h
    refine ⟨h.1, ?_⟩
    have hn := neg_le_one l
    by_cases e : neg l = 1
    · exact .inl e
    · right
      have e0 : neg l = 0 := by omega
      rw [e0] at h ⊢
      rw [List.drop_zero] at h ⊢
      obtain ⟨h1, h2⟩ := h
      match l, h1, h2, hl with
      | [b], h1, h2, _ => simp at h1; subst h1; exact absurd rfl h2
      | b :: c :: r, _, _, _ => simp

/-- Are digits less than others, or the same? -/
def lessB (a b : List UInt8) : Bool := decide (a.length < b.length) || (decide (a.length = b.length) && (Op.bytesLess a b || a == b))

theorem lessB_digs (a b : Nat) : lessB (digs a) (digs b) = decide (a ≤ b) := by
  rw [lessB]
  rcases Nat.lt_trichotomy (digs a).length (digs b).length with h | h | h
  · have := digs_len_mono h
    rw [decide_eq_true h, Bool.true_or, eq_comm, decide_eq_true_iff]; omega
  · rw [decide_eq_false (by omega), decide_eq_true h, digs_lex h, Bool.false_or, Bool.true_and]
    have he : (digs a == digs b) = decide (a = b) := by
      by_cases e : a = b
      · subst e; simp
      · rw [decide_eq_false e, beq_eq_false_iff_ne]
        intro h2
        have := congrArg natOf h2
        rw [natOf_digs, natOf_digs] at this
        exact e this
    rw [he, ← Bool.decide_or, decide_eq_decide]
    omega
  · have := digs_len_mono h
    rw [decide_eq_false (by omega), decide_eq_false (by omega), Bool.false_and, Bool.false_or, eq_comm, decide_eq_false_iff_not]; omega

theorem IsWord.digs {l : List UInt8} (h : IsWord l) : digs (natOf (l.drop (neg l))) = l.drop (neg l) := by
  have h1 := h.some_
  refine digs_natOf h.digits (fun e => ?_) (fun hz => ?_)
  · have := congrArg List.length e
    rw [List.length_drop] at this
    simp at this
    omega
  · obtain ⟨e1, e2⟩ := h.zero hz
    rw [List.length_drop]; omega

/-- The digits of 2^63. -/
theorem digs_most : digs 9223372036854775808 = [57, 50, 50, 51, 51, 55, 50, 48, 51, 54, 56, 53, 52, 55, 55, 53, 56, 48, 56] :=
  digs_natOf (l := [57, 50, 50, 51, 51, 55, 50, 48, 51, 54, 56, 53, 52, 55, 55, 53, 56, 48, 56]) (by intro b hb; revert b; decide) (by decide) (by decide)
theorem digs_max : digs 9223372036854775807 = [57, 50, 50, 51, 51, 55, 50, 48, 51, 54, 56, 53, 52, 55, 55, 53, 56, 48, 55] :=
  digs_natOf (l := [57, 50, 50, 51, 51, 55, 50, 48, 51, 54, 56, 53, 52, 55, 55, 53, 56, 48, 55]) (by intro b hb; revert b; decide) (by decide) (by decide)

theorem IsWord.less_most {l : List UInt8} (h : IsWord l) : lessB (l.drop (neg l)) [57, 50, 50, 51, 51, 55, 50, 48, 51, 54, 56, 53, 52, 55, 55, 53, 56, 48, 56] = decide (natOf (l.drop (neg l)) ≤ 9223372036854775808) := by
  rw [← digs_most]
  conv => lhs; rw [← h.digs]
  exact lessB_digs _ _
theorem IsWord.less_max {l : List UInt8} (h : IsWord l) : lessB (l.drop (neg l)) [57, 50, 50, 51, 51, 55, 50, 48, 51, 54, 56, 53, 52, 55, 55, 53, 56, 48, 55] = decide (natOf (l.drop (neg l)) ≤ 9223372036854775807) := by
  rw [← digs_max]
  conv => lhs; rw [← h.digs]
  exact lessB_digs _ _

/-- What the first k signs of a text come to, the '-' apart. -/
def pref (l : List UInt8) (k : Nat) : Nat := natOf ((l.take k).drop (neg l))

theorem pref_zero (l : List UInt8) : pref l 0 = 0 := by simp [pref, natOf]
theorem pref_one {l : List UInt8} (h : neg l = 1) : pref l 1 = 0 := by
  rw [pref, h]
  have : ((l.take 1).drop 1) = [] := List.drop_eq_nil_iff.2 (by simp; omega)
  rw [this]; rfl
theorem pref_step {l : List UInt8} {k : Nat} (hk : k < l.length) (hn : neg l ≤ k) : pref l (k + 1) = 10 * pref l k + (l[k].toNat - 48) := by
  have hlen : (l.take k).length = k := by simp; omega
  rw [pref, List.take_succ_eq_append_getElem hk, List.drop_append_of_le_length (by omega), natOf_snoc]; rfl
theorem pref_le (l : List UInt8) (k : Nat) : pref l k ≤ natOf (l.drop (neg l)) := by
  rw [pref, List.drop_take]
  exact natOf_take_le _ _
theorem pref_end {l : List UInt8} {k : Nat} (h : l.length ≤ k) : pref l k = natOf (l.drop (neg l)) := by
  rw [pref, List.take_of_length_le h]

theorem neg_digs (m : Nat) (b : List UInt8) : neg (digs m ++ b) = 0 := by
  have hp : 0 < (digs m).length := List.length_pos_iff.2 (digs_ne m)
  refine neg_of_dig (by rw [List.length_append]; omega) ?_
  rw [List.getElem_append_left hp]
  have := digs_digits m _ (List.getElem_mem hp)
  omega

theorem print_neg_eq (n : Int) (b : List UInt8) : neg (print n ++ b) = if n < 0 then 1 else 0 := by
  rw [print]
  split
  · rfl
  · exact neg_digs _ _
theorem print_drop (n : Int) (b : List UInt8) : (print n ++ b).drop (neg (print n ++ b)) = digs n.natAbs ++ b := by
  rw [print_neg_eq, print]
  split
  · rfl
  · rfl

theorem takeWhile_stop {p : UInt8 → Bool} {x y : List UInt8} (hx : x.all p = true) (hy : ∀ b, y.head? = some b → p b = false) : (x ++ y).takeWhile p = x := by
  induction x with
  | nil =>
    cases y with
    | nil => rfl
    | cons b r => rw [List.nil_append, List.takeWhile_cons, if_neg (by simp [hy b rfl])]
  | cons b r ih =>
    simp only [List.all_cons, Bool.and_eq_true] at hx
    rw [List.cons_append, List.takeWhile_cons, if_pos hx.1, ih hx.2]

theorem print_len (n : Int) : (print n).length = (if n < 0 then 1 else 0) + (digs n.natAbs).length := by
  rw [print]; split <;> simp <;> omega

theorem print_piece (n : Int) {b : List UInt8} (hb : ∀ c, b.head? = some c → dig c = false) : pieceLen (print n ++ b) = (print n).length := by
  have hp : 0 < (digs n.natAbs).length := List.length_pos_iff.2 (digs_ne _)
  rw [pieceLen, print_drop, takeWhile_stop (dig_of_digits (digs_digits _)) hb, if_neg (by omega), print_neg_eq, print_len]

theorem print_value {n : Int} (h0 : -9223372036854775808 ≤ n) (h1 : n ≤ 9223372036854775807) : valueOf (print n) = (n, 0) := by
  have hd := print_drop n []
  have hn := print_neg_eq n []
  rw [List.append_nil] at hd hn
  rw [List.append_nil] at hd
  rw [valueOf, hd, hn, natOf_digs, if_neg]
  · by_cases h : n < 0
    · rw [if_pos h, if_pos rfl, if_neg (by omega)]; congr 1; omega
    · rw [if_neg h, if_neg (by omega), if_neg (by omega)]; congr 1; omega
  · rintro ⟨hz, ho⟩
    have := digs_head hz
    rw [this] at ho
    simp [digs_small] at ho
    omega

theorem print_read {n : Int} (h0 : -9223372036854775808 ≤ n) (h1 : n ≤ 9223372036854775807) : readOf (print n) = (n, 0) := by
  have hp := print_piece n (b := []) (by simp)
  rw [List.append_nil] at hp
  have hpos : 0 < (print n).length := by
    have := List.length_pos_iff.2 (digs_ne n.natAbs)
    rw [print_len]; omega
  rw [readOf, hp, if_neg (by omega), print_value h0 h1]

theorem print_scan {n : Int} (h0 : -9223372036854775808 ≤ n) (h1 : n ≤ 9223372036854775807) (a : List UInt8) {b : List UInt8} (hb : ∀ c, b.head? = some c → dig c = false) :
    scanOf (a ++ print n ++ b) a.length = (n, (a.length : Int) + (print n).length, 0) := by
  have hpos : 0 < (print n).length := by
    have := List.length_pos_iff.2 (digs_ne n.natAbs)
    rw [print_len]; omega
  have hd : (a ++ print n ++ b).drop a.length = print n ++ b := by rw [List.append_assoc, List.drop_left]
  rw [scanOf, if_neg (by rw [List.length_append, List.length_append]; omega), Int.toNat_natCast, hd, print_piece n hb, if_neg (by omega), List.take_left, print_value h0 h1]
  rfl

theorem read_print {l : List UInt8} (h : (readOf l).2 = 0) : print (readOf l).1 = l ∧ -9223372036854775808 ≤ (readOf l).1 ∧ (readOf l).1 ≤ 9223372036854775807 := by
  cases hw : wordOf l with
  | false => rw [read_no_word hw] at h; exact absurd h (by decide)
  | true =>
    have iw := isWord hw
    have hr := iw.read
    have hdg := iw.digs
    have hn := neg_le_one l
    have hs := iw.some_
    by_cases e : neg l = 1
    · rw [if_pos e] at hr
      by_cases hov : 9223372036854775808 < natOf (l.drop (neg l))
      · rw [hr, if_pos hov] at h; exact absurd h (by decide)
      · rw [hr, if_neg hov]
        have hpos : 0 < natOf (l.drop (neg l)) := by
          rcases Nat.eq_zero_or_pos (natOf (l.drop (neg l))) with hz | hz
          · exfalso
            rw [hz] at hdg
            have := iw.zero (by rw [← hdg]; simp [digs_small])
            omega
          · exact hz
        refine ⟨?_, by omega, by omega⟩
        simp only [print]
        rw [if_pos (by omega), show (-(natOf (l.drop (neg l)) : Int)).natAbs = natOf (l.drop (neg l)) by omega, hdg, e]
        match l, e, hs with
        | b :: r, e, _ =>
          simp only [neg] at e
          have hb : b.toNat = 45 := by
            by_cases hb : b.toNat = 45
            · exact hb
            · rw [if_neg hb] at e; exact absurd e (by decide)
          have : b = 45 := UInt8.toNat_inj.1 hb
          subst this; rfl
    · have e0 : neg l = 0 := by omega
      rw [if_neg e] at hr
      by_cases hov : 9223372036854775807 < natOf (l.drop (neg l))
      · rw [hr, if_pos hov] at h; exact absurd h (by decide)
      · rw [hr, if_neg hov]
        refine ⟨?_, by omega, by omega⟩
        simp only [print]
        rw [if_neg (by omega), show ((natOf (l.drop (neg l)) : Int)).natAbs = natOf (l.drop (neg l)) by omega, hdg, e0]; rfl

end Punnet.Num
