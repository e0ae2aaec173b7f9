/- Plain laws of decimal digits: what is printed is read, what is read is printed, more digits are more. -/
import Derived.Test.YthnpfpgedlmpoaaNumPlain
import GoSem.Op.String
namespace Punnet.Num
open Go

theorem natOf_nil : natOf [] = 0 := rfl
theorem foldl_add (r : List UInt8) : ∀ a : Nat, r.foldl (fun a b => 10 * a + (b.toNat - 48)) a = a * 10 ^ r.length + natOf r := by
  induction r with
  | nil => intro a; simp [natOf]
  | cons b r ih =>
    intro a
    have e : natOf (b :: r) = (10 * 0 + (b.toNat - 48)) * 10 ^ r.length + natOf r := by rw [← ih]; rfl
    rw [List.foldl_cons, ih, e, List.length_cons, Nat.pow_succ]
    simp only [Nat.mul_zero, Nat.zero_add, Nat.add_mul]
    rw [Nat.mul_comm 10 a, Nat.mul_assoc, Nat.mul_comm 10 (10 ^ r.length)]
    omega
theorem natOf_cons (b : UInt8) (r : List UInt8) : natOf (b :: r) = (b.toNat - 48) * 10 ^ r.length + natOf r := by
  rw [natOf, List.foldl_cons, foldl_add]; simp

/-- All bytes are digits. -/
def Digits (l : List UInt8) : Prop := ∀ b ∈ l, 48 ≤ b.toNat ∧ b.toNat ≤ 57

theorem Digits.tail {b : UInt8} {r : List UInt8} (h : Digits (b :: r)) : Digits r := fun x hx => h x (List.mem_cons_of_mem _ hx)
theorem Digits.head {b : UInt8} {r : List UInt8} (h : Digits (b :: r)) : 48 ≤ b.toNat ∧ b.toNat ≤ 57 := h b (List.mem_cons_self)
theorem Digits.append {x y : List UInt8} (hx : Digits x) (hy : Digits y) : Digits (x ++ y) := fun b hb => (List.mem_append.1 hb).elim (hx b) (hy b)
theorem Digits.left {x y : List UInt8} (h : Digits (x ++ y)) : Digits x := fun b hb => h b (List.mem_append.2 (.inl hb))

theorem natOf_lt {l : List UInt8} (h : Digits l) : natOf l < 10 ^ l.length := by
  induction l with
  | nil => simp [natOf]
  | cons b r ih =>
    have h1 := ih h.tail
    have h2 := h.head
    rw [natOf_cons, List.length_cons, Nat.pow_succ]
    have : (b.toNat - 48) * 10 ^ r.length ≤ 9 * 10 ^ r.length := Nat.mul_le_mul_right _ (by omega)
    omega

theorem lex_nat : ∀ {x y : List UInt8}, x.length = y.length → Digits x → Digits y → Op.bytesLess x y = decide (natOf x < natOf y)
  | [], [], _, _, _ => by simp [Op.bytesLess]
  | [], _ :: _, h, _, _ => by simp at h
  | _ :: _, [], h, _, _ => by simp at h
  | a :: x, b :: y, h, hx, hy => by
    have hl : x.length = y.length := by simpa using h
    have ih := lex_nat hl hx.tail hy.tail
    have h1 := natOf_lt hx.tail
    have h2 := natOf_lt hy.tail
    have ha := hx.head
    have hb := hy.head
    rw [Op.bytesLess, ih, natOf_cons, natOf_cons, hl]
    rw [hl] at h1
    have hab : (a == b) = decide (a.toNat = b.toNat) := by
      by_cases e : a = b
      · subst e; simp
      · rw [beq_eq_false_iff_ne.2 e]; symm; rw [decide_eq_false_iff_not]; intro h; exact e (UInt8.toNat_inj.1 h)
    rw [hab]
    have hlt : (decide (a < b)) = decide (a.toNat < b.toNat) := by simp [UInt8.lt_iff_toNat_lt]
    rw [hlt]
    rcases Nat.lt_trichotomy a.toNat b.toNat with hc | hc | hc
    · have : (a.toNat - 48 + 1) * 10 ^ y.length ≤ (b.toNat - 48) * 10 ^ y.length := Nat.mul_le_mul_right _ (by omega)
      rw [Nat.add_mul] at this
      simp [hc]
      omega
    · have e : a.toNat - 48 = b.toNat - 48 := by omega
      simp [hc]
    · have : (b.toNat - 48 + 1) * 10 ^ y.length ≤ (a.toNat - 48) * 10 ^ y.length := Nat.mul_le_mul_right _ (by omega)
      rw [Nat.add_mul] at this
      have hn : ¬ a.toNat < b.toNat := by omega
      have hne : ¬ a.toNat = b.toNat := by omega
      simp [hn, hne]
      omega

theorem digit_toNat (d : Nat) (h : d < 10) : (UInt8.ofNat (48 + d)).toNat = 48 + d := by
  rw [UInt8.toNat_ofNat']; omega

theorem digs_digits (m : Nat) : Digits (digs m) := by
  induction m using Nat.strongRecOn with
  | _ m ih =>
    by_cases h : m < 10
    · rw [digs_small h]
      intro b hb
      simp only [List.mem_singleton] at hb
      subst hb
      rw [digit_toNat m h]; omega
    · rw [digs_step h]
      refine (ih _ (by omega)).append fun b hb => ?_
      simp only [List.mem_singleton] at hb
      subst hb
      rw [digit_toNat _ (by omega)]; omega

theorem natOf_digs (m : Nat) : natOf (digs m) = m := by
  induction m using Nat.strongRecOn with
  | _ m ih =>
    by_cases h : m < 10
    · rw [digs_small h, natOf_cons, digit_toNat m h]; simp [natOf]
    · rw [digs_step h, natOf_snoc, ih _ (by omega), digit_toNat _ (by omega)]; omega

theorem digs_low (m : Nat) (h : 10 ≤ m) : 10 ^ ((digs m).length - 1) ≤ m := by
  induction m using Nat.strongRecOn with
  | _ m ih =>
    rw [digs_step (by omega)]
    rw [List.length_append, List.length_singleton, Nat.add_sub_cancel]
    by_cases h2 : m / 10 < 10
    · rw [digs_small h2]; simp; omega
    · have := ih (m / 10) (by omega) (by omega)
      have hp : 0 < (digs (m / 10)).length := List.length_pos_iff.2 (digs_ne _)
      obtain ⟨k, hk⟩ : ∃ k, (digs (m / 10)).length = k + 1 := ⟨_, (Nat.succ_pred_eq_of_pos hp).symm⟩
      rw [hk] at this ⊢
      rw [Nat.pow_succ]
      simp only [Nat.add_sub_cancel] at this
      omega

theorem digs_len_mono {a b : Nat} (h : (digs a).length < (digs b).length) : a < b := by
  have hb : 10 ≤ b := by
    rcases Nat.lt_or_ge b 10 with hlt | hge
    · rw [digs_small hlt] at h
      have : 0 < (digs a).length := List.length_pos_iff.2 (digs_ne _)
      simp at h
      exact absurd h (digs_ne a)
    · exact hge
  have h1 := digs_low b hb
  have h2 := natOf_lt (digs_digits a)
  rw [natOf_digs] at h2
  have h3 : 10 ^ (digs a).length ≤ 10 ^ ((digs b).length - 1) := Nat.pow_le_pow_right (by omega) (by omega)
  omega

theorem digs_lex {a b : Nat} (h : (digs a).length = (digs b).length) : Op.bytesLess (digs a) (digs b) = decide (a < b) := by
  rw [lex_nat h (digs_digits a) (digs_digits b), natOf_digs, natOf_digs]

theorem natOf_pos {b : UInt8} {r : List UInt8} (h : Digits (b :: r)) (hb : b ≠ 48) : 0 < natOf (b :: r) := by
  have h1 := h.head
  have h2 : b.toNat ≠ 48 := fun e => hb (UInt8.toNat_inj.1 e)
  rw [natOf_cons]
  have : 0 < (b.toNat - 48) * 10 ^ r.length := Nat.mul_pos (by omega) (Nat.pow_pos (by omega))
  omega

theorem digs_natOf_snoc (n : Nat) : ∀ {l : List UInt8}, l.length = n → Digits l → l ≠ [] → (l.head? = some 48 → l.length = 1) → digs (natOf l) = l := by
  induction n with
  | zero => intro l hl _ hne _; exact absurd (List.length_eq_zero_iff.1 hl) hne
  | succ n ih =>
    intro l hl hd hne hz
    obtain ⟨r, b, rfl⟩ : ∃ r b, l = r ++ [b] := ⟨_, _, (List.dropLast_concat_getLast hne).symm⟩
    have hb : 48 ≤ b.toNat ∧ b.toNat ≤ 57 := hd b (by simp)
    have hr : r.length = n := by simpa using hl
    have e48 : UInt8.ofNat (48 + (b.toNat - 48)) = b := by
      rw [show 48 + (b.toNat - 48) = b.toNat by omega]; simp
    rw [natOf_snoc]
    cases r with
    | nil =>
      rw [natOf_nil, digs_small (by omega), Nat.mul_zero, Nat.zero_add, e48]; rfl
    | cons h t =>
      have hh : h ≠ 48 := by
        rintro rfl
        have := hz rfl
        simp at this
      have hp := natOf_pos hd.left hh
      rw [digs_step (by omega), show (10 * natOf (h :: t) + (b.toNat - 48)) / 10 = natOf (h :: t) by omega, show (10 * natOf (h :: t) + (b.toNat - 48)) % 10 = b.toNat - 48 by omega, e48,
        ih hr hd.left (by simp) (fun e => by simp at e; exact absurd e hh)]

theorem digs_natOf {l : List UInt8} (hd : Digits l) (hne : l ≠ []) (hz : l.head? = some 48 → l.length = 1) : digs (natOf l) = l := digs_natOf_snoc _ rfl hd hne hz

theorem digs_head {m : Nat} (h : (digs m).head? = some 48) : m = 0 := by
  have hd := digs_digits m
  have hn := natOf_digs m
  have hs : m < 10 ∨ ¬ m < 10 := by omega
  rcases hs with hs | hs
  · rw [digs_small hs] at h
    simp only [List.head?_cons, Option.some.injEq] at h
    have := congrArg UInt8.toNat h
    rw [digit_toNat m hs] at this
    have e : (48 : UInt8).toNat = 48 := rfl
    omega
  · exfalso
    have hl := digs_low m (by omega)
    revert h hd hn hl
    have hlen : 2 ≤ (digs m).length := by
      rw [digs_step hs]
      have : 0 < (digs (m / 10)).length := List.length_pos_iff.2 (digs_ne _)
      simp
      omega
    revert hlen
    generalize digs m = l
    intro hlen h hd hn hl
    cases l with
    | nil => simp at h
    | cons b r =>
      simp at h
      subst h
      rw [natOf_cons] at hn
      have e : (48 : UInt8).toNat - 48 = 0 := rfl
      rw [e, Nat.zero_mul, Nat.zero_add] at hn
      have := natOf_lt hd.tail
      rw [List.length_cons, Nat.add_sub_cancel] at hl
      omega

end Punnet.Num
