/- Plain facts on decimal digits: what num.Print prints, as a list of bytes; what num.Read and num.Scan read. No program is in sight here. -/
namespace Punnet.Num

/-- The digits of a natural number in base 10, the greatest first. -/
def digs (m : Nat) : List UInt8 := if m < 10 then [UInt8.ofNat (48 + m)] else digs (m / 10) ++ [UInt8.ofNat (48 + m % 10)]
  termination_by m
  decreasing_by omega

theorem digs_small {m : Nat} (h : m < 10) : digs m = [UInt8.ofNat (48 + m)] := by rw [digs, if_pos h]
theorem digs_step {m : Nat} (h : ¬ m < 10) : digs m = digs (m / 10) ++ [UInt8.ofNat (48 + m % 10)] := by rw [digs, if_neg h]
theorem digs_ne (m : Nat) : digs m ≠ [] := by rw [digs]; split <;> simp

/-- The print of a whole number. -/
def print (n : Int) : List UInt8 := if n < 0 then 45 :: digs n.natAbs else digs n.natAbs

/-- The print as a text. -/
def printB (n : Int) : ByteArray := ⟨(print n).toArray⟩
theorem printB_data (n : Int) : (printB n).data.toList = print n := by simp [printB]
theorem printB_size (n : Int) : (printB n).size = (print n).length := by
  rw [← printB_data]; simp

/-- Is a byte a digit? -/
def dig (b : UInt8) : Bool := decide (48 ≤ b.toNat ∧ b.toNat ≤ 57)

/-- 1, if a text begins with a '-'. -/
def neg : List UInt8 → Nat
  | b :: _ => if b.toNat = 45 then 1 else 0
  | [] => 0

theorem neg_le (l : List UInt8) : neg l ≤ l.length := by
  cases l with
  | nil => simp [neg]
  | cons b r => simp only [neg, List.length_cons]; split <;> omega
theorem neg_le_one (l : List UInt8) : neg l ≤ 1 := by
  cases l with
  | nil => simp [neg]
  | cons b r => simp only [neg]; split <;> omega

/-- How long the longest beginning is that is digits, or a '-' and digits. -/
def pieceLen (l : List UInt8) : Nat :=
  if ((l.drop (neg l)).takeWhile dig).length = 0 then 0 else neg l + ((l.drop (neg l)).takeWhile dig).length

/-- What holds of num.piece at the head of a round. -/
def PieceInv (l : List UInt8) (k D E : Nat) : Prop :=
  k ≤ l.length ∧ (k = 0 → D = 0 ∧ E = 0) ∧ (0 < k → D + neg l = k ∧ E = if D = 0 then 0 else k) ∧ ∀ j (h : j < l.length), neg l ≤ j → j < k → dig l[j] = true

theorem PieceInv.start (l : List UInt8) : PieceInv l 0 0 0 := ⟨Nat.zero_le _, fun _ => ⟨rfl, rfl⟩, fun h => absurd h (by omega), fun _ _ _ h => absurd h (by omega)⟩

theorem PieceInv.skip {l : List UInt8} {D E : Nat} (h : PieceInv l 0 D E) (hl : 0 < l.length) (hb : l[0].toNat = 45) : PieceInv l 1 D E := by
  obtain ⟨_, h0, _, _⟩ := h
  obtain ⟨rfl, rfl⟩ := h0 rfl
  have hn : neg l = 1 := by
    cases l with
    | nil => simp at hl
    | cons b r => simpa [neg] using hb
  exact ⟨hl, fun h => absurd h (by omega), fun _ => ⟨by omega, by simp⟩, fun j _ h1 h2 => absurd h2 (by omega)⟩

theorem neg_of_dig {l : List UInt8} (hl : 0 < l.length) (hb : l[0].toNat ≠ 45) : neg l = 0 := by
  cases l with
  | nil => rfl
  | cons b r => simp only [neg]; exact if_neg (by simpa using hb)

theorem neg_of_minus {l : List UInt8} (hl : 0 < l.length) (hb : l[0].toNat = 45) : neg l = 1 := by
  cases l with
  | nil => simp at hl
  | cons b r => simp only [neg]; exact if_pos (by simpa using hb)

theorem PieceInv.more {l : List UInt8} {k D E : Nat} (h : PieceInv l k D E) (hl : k < l.length) (hb : 48 ≤ l[k].toNat) (hb' : l[k].toNat ≤ 57) : PieceInv l (k + 1) (D + 1) (k + 1) := by
  obtain ⟨_, h0, h1, h2⟩ := h
  have hd : D + neg l = k := by
    rcases Nat.eq_zero_or_pos k with rfl | hp
    · rw [neg_of_dig hl (by omega)]; exact (h0 rfl).1
    · exact (h1 hp).1
  refine ⟨hl, fun h => absurd h (by omega), fun _ => ⟨by omega, by simp⟩, fun j hj hn hjk => ?_⟩
  by_cases e : j = k
  · subst e; simp [dig, hb, hb']
  · exact h2 j hj hn (by omega)

theorem takeWhile_len {p : UInt8 → Bool} {l : List UInt8} {n : Nat} (hn : n ≤ l.length) (ha : ∀ j (h : j < l.length), j < n → p l[j] = true) (he : ∀ h : n < l.length, p l[n] = false) : (l.takeWhile p).length = n := by
  induction l generalizing n with
  | nil => simp at hn; simp [hn]
  | cons b r ih =>
    cases n with
    | zero =>
      have hb : p b = false := he (by simp)
      rw [List.takeWhile_cons, if_neg (by simp [hb])]; rfl
    | succ n =>
      have hb : p b = true := ha 0 (by simp) (by omega)
      rw [List.takeWhile_cons, if_pos hb, List.length_cons, ih (by simpa using hn) (fun j h hj => ha (j + 1) (by simpa using h) (by omega)) (fun h => he (by simpa using h))]

theorem PieceInv.stop {l : List UInt8} {k D E : Nat} (h : PieceInv l k D E) (he : ∀ h : k < l.length, ¬ (48 ≤ l[k].toNat ∧ l[k].toNat ≤ 57) ∧ ¬ (k = 0 ∧ l[k].toNat = 45)) : pieceLen l = if D = 0 then 0 else E := by
  obtain ⟨hk, h0, h1, h2⟩ := h
  have hd : D + neg l = k := by
    rcases Nat.eq_zero_or_pos k with rfl | hp
    · have hn : neg l = 0 := by
        cases l with
        | nil => rfl
        | cons b r => exact neg_of_dig (by simp) (fun e => (he (by simp)).2 ⟨rfl, e⟩)
      rw [hn]; exact (h0 rfl).1
    · exact (h1 hp).1
  have hlen : ((l.drop (neg l)).takeWhile dig).length = D := by
    refine takeWhile_len (by rw [List.length_drop]; omega) (fun j h hj => ?_) (fun h => ?_)
    · rw [List.getElem_drop]; exact h2 _ _ (by omega) (by omega)
    · rw [List.getElem_drop]
      have hh : k < l.length := by rw [List.length_drop] at h; omega
      have := (he hh).1
      subst hd
      simp only [dig, decide_eq_false_iff_not]
      rw [show l[neg l + D]'(by omega) = l[D + neg l]'hh from by congr 1; omega]
      exact this
  rw [pieceLen, hlen]
  by_cases hD : D = 0
  · simp [hD]
  · rw [if_neg hD, if_neg hD, (h1 (by omega)).2, if_neg hD]; omega

theorem takeWhile_all {p : UInt8 → Bool} {l : List UInt8} (h : (l.takeWhile p).length = l.length) : ∀ j (hj : j < l.length), p l[j] = true := by
  induction l with
  | nil => intro j hj; simp at hj
  | cons b r ih =>
    intro j hj
    rw [List.takeWhile_cons] at h
    by_cases hb : p b = true
    · rw [if_pos hb] at h
      cases j with
      | zero => exact hb
      | succ j => exact ih (by simpa using h) j (by simpa using hj)
    · rw [if_neg hb] at h; simp at h

theorem takeWhile_len_le (p : UInt8 → Bool) (l : List UInt8) : (l.takeWhile p).length ≤ l.length := by
  induction l with
  | nil => simp
  | cons b r ih => rw [List.takeWhile_cons]; split <;> simp <;> omega

theorem piece_gt {l : List UInt8} (hp : pieceLen l = l.length) (hl : 0 < l.length) : neg l < l.length := by
  rw [pieceLen] at hp
  split at hp <;> omega

theorem piece_digs {l : List UInt8} (hp : pieceLen l = l.length) (hl : 0 < l.length) (k : Nat) (hk : k < l.length) (hn : neg l ≤ k) : dig l[k] = true := by
  have hw : ((l.drop (neg l)).takeWhile dig).length = (l.drop (neg l)).length := by
    rw [List.length_drop]
    rw [pieceLen] at hp
    split at hp <;> omega
  have := takeWhile_all hw (k - neg l) (by rw [List.length_drop]; omega)
  rw [List.getElem_drop] at this
  rw [← this]
  congr 2
  omega

/-- What digits come to. -/
def natOf (l : List UInt8) : Nat := l.foldl (fun a b => 10 * a + (b.toNat - 48)) 0

theorem natOf_snoc (l : List UInt8) (b : UInt8) : natOf (l ++ [b]) = 10 * natOf l + (b.toNat - 48) := by simp [natOf]
theorem natOf_take_succ {l : List UInt8} {k : Nat} (h : k < l.length) : natOf (l.take (k + 1)) = 10 * natOf (l.take k) + (l[k].toNat - 48) := by
  rw [List.take_succ_eq_append_getElem h, natOf_snoc]
theorem foldl_ge (l : List UInt8) : ∀ a : Nat, a ≤ l.foldl (fun a b => 10 * a + (b.toNat - 48)) a := by
  induction l with
  | nil => exact fun a => Nat.le_refl _
  | cons b r ih => exact fun a => Nat.le_trans (show a ≤ 10 * a + (b.toNat - 48) by omega) (ih _)
theorem natOf_take_le (l : List UInt8) (k : Nat) : natOf (l.take k) ≤ natOf l := by
  have h : natOf l = (l.drop k).foldl (fun a b => 10 * a + (b.toNat - 48)) (natOf (l.take k)) := by
    rw [natOf, natOf, ← List.foldl_append, List.take_append_drop]
  rw [h]
  exact foldl_ge _ _

/-- The number that digits, or a '-' and digits, tell; the code. -/
def valueOf (l : List UInt8) : Int × Int :=
  if (l.drop (neg l)).head? = some 48 ∧ (neg l = 1 ∨ 1 < (l.drop (neg l)).length) then (0, 4)
  else if neg l = 1 then (if 9223372036854775808 < natOf (l.drop (neg l)) then (0, 3) else (-(natOf (l.drop (neg l)) : Int), 0))
  else (if 9223372036854775807 < natOf (l.drop (neg l)) then (0, 3) else ((natOf (l.drop (neg l)) : Int), 0))

/-- What num.Read tells. -/
def readOf (l : List UInt8) : Int × Int := if pieceLen l = 0 ∨ pieceLen l ≠ l.length then (0, 4) else valueOf l

/-- What num.Scan tells. -/
def scanOf (l : List UInt8) (a : Int) : Int × Int × Int :=
  if a < 0 ∨ (l.length : Int) < a then (0, 0, 2)
  else if pieceLen (l.drop a.toNat) = 0 then (0, 0, 4)
  else if (valueOf ((l.drop a.toNat).take (pieceLen (l.drop a.toNat)))).2 ≠ 0 then (0, 0, (valueOf ((l.drop a.toNat).take (pieceLen (l.drop a.toNat)))).2)
  else ((valueOf ((l.drop a.toNat).take (pieceLen (l.drop a.toNat)))).1, a + pieceLen (l.drop a.toNat), 0)

theorem pieceLen_le (l : List UInt8) : pieceLen l ≤ l.length := by
  have h1 := takeWhile_len_le dig (l.drop (neg l))
  have h2 := neg_le l
  rw [List.length_drop] at h1
  rw [pieceLen]
  split <;> omega

theorem neg_take {l : List UInt8} {n : Nat} (h : 0 < n) : neg (l.take n) = neg l := by
  cases l with
  | nil => simp
  | cons b r =>
    cases n with
    | zero => omega
    | succ n => rfl

theorem takeWhile_take_len (p : UInt8 → Bool) (l : List UInt8) : (l.take (l.takeWhile p).length).takeWhile p = l.takeWhile p := by
  induction l with
  | nil => simp
  | cons b r ih =>
    rw [List.takeWhile_cons]
    by_cases hb : p b = true
    · rw [if_pos hb, List.length_cons, List.take_succ_cons, List.takeWhile_cons, if_pos hb, ih]
    · rw [if_neg hb]; simp

theorem pieceLen_take (l : List UInt8) : pieceLen (l.take (pieceLen l)) = pieceLen l := by
  by_cases h0 : ((l.drop (neg l)).takeWhile dig).length = 0
  · have : pieceLen l = 0 := by rw [pieceLen, if_pos h0]
    rw [this]; simp [pieceLen, neg]
  · have hp : pieceLen l = neg l + ((l.drop (neg l)).takeWhile dig).length := by rw [pieceLen, if_neg h0]
    have hn : neg (l.take (pieceLen l)) = neg l := neg_take (by omega)
    have hd : (l.take (pieceLen l)).drop (neg l) = (l.drop (neg l)).take ((l.drop (neg l)).takeWhile dig).length := by
      rw [hp, List.drop_take]; congr 1; omega
    rw [pieceLen, hn, hd, takeWhile_take_len, if_neg h0, ← hp]

end Punnet.Num
