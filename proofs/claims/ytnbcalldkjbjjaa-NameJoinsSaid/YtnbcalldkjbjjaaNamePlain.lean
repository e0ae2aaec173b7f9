/- Plain facts on names and quotes: what a sign of a quote is, where a quote ends, a line's words. No program is in sight here. -/
namespace Punnet.Name

/-- Does a byte stand in a quote as it is? -/
def plainB (c : UInt8) : Bool := decide (32 ≤ c.toNat) && decide (c.toNat ≤ 126) && decide (c.toNat ≠ 34) && decide (c.toNat ≠ 92)

/-- A digit's number in base 16. -/
def hexD (c : UInt8) : Option Nat := if 48 ≤ c.toNat ∧ c.toNat ≤ 57 then some (c.toNat - 48) else if 97 ≤ c.toNat ∧ c.toNat ≤ 102 then some (c.toNat - 87) else none

/-- The digit of a number below 16. -/
def hexOf (n : Nat) : UInt8 := UInt8.ofNat (if n < 10 then 48 + n else 87 + n)

/-- The byte that two digits tell, if it needs them. -/
def code2 (a b : UInt8) : Option UInt8 := match hexD a, hexD b with
  | some h, some l => if plainB (UInt8.ofNat (16 * h + l)) then none else some (UInt8.ofNat (16 * h + l))
  | _, _ => none

/-- Behind a backslash: the byte that two digits tell. -/
def coded : List UInt8 → Option (UInt8 × Nat)
  | a :: b :: _ => (code2 a b).map fun x => (x, 2)
  | _ => none

/-- The sign at a text's head: the byte that it stands for, and how many bytes follow its first. -/
def sign : List UInt8 → Option (UInt8 × Nat)
  | [] => none
  | c :: r => if c.toNat = 92 then coded r else if plainB c then some (c, 0) else none

/-- The text whose quote goes on at a place, and the place behind it. -/
def bodyAt (l : List UInt8) (k : Nat) : Option (List UInt8 × Nat) :=
  if h : k < l.length then
    if l[k].toNat = 34 then some ([], k + 1)
    else match sign (l.drop k) with
      | none => none
      | some (c, n) => (bodyAt l (k + n + 1)).map fun p => (c :: p.1, p.2)
  else none
  termination_by l.length - k

/-- The text whose quote begins at a place, and the place behind it. -/
def quotedAt (l : List UInt8) (k : Nat) : Option (List UInt8 × Nat) :=
  if h : k < l.length then (if l[k].toNat = 34 then bodyAt l (k + 1) else none) else none

theorem bodyAt_out {l : List UInt8} {k : Nat} (h : ¬ k < l.length) : bodyAt l k = none := by rw [bodyAt, dif_neg h]
theorem bodyAt_end {l : List UInt8} {k : Nat} (h : k < l.length) (hq : l[k].toNat = 34) : bodyAt l k = some ([], k + 1) := by rw [bodyAt, dif_pos h, if_pos hq]
theorem bodyAt_none {l : List UInt8} {k : Nat} (h : k < l.length) (hq : l[k].toNat ≠ 34) (hs : sign (l.drop k) = none) : bodyAt l k = none := by
  rw [bodyAt, dif_pos h, if_neg hq, hs]
theorem bodyAt_some {l : List UInt8} {k n : Nat} {c : UInt8} (h : k < l.length) (hq : l[k].toNat ≠ 34) (hs : sign (l.drop k) = some (c, n)) : bodyAt l k = (bodyAt l (k + n + 1)).map fun p => (c :: p.1, p.2) := by
  rw [bodyAt, dif_pos h, if_neg hq, hs]

theorem drop_cons {l : List UInt8} {k : Nat} (h : k < l.length) : l.drop k = l[k] :: l.drop (k + 1) := List.drop_eq_getElem_cons h

theorem sign_plain {l : List UInt8} {k : Nat} (h : k < l.length) (h1 : l[k].toNat ≠ 92) (h2 : plainB l[k] = true) : sign (l.drop k) = some (l[k], 0) := by
  rw [drop_cons h, sign, if_neg h1, if_pos h2]
theorem sign_other {l : List UInt8} {k : Nat} (h : k < l.length) (h1 : l[k].toNat ≠ 92) (h2 : plainB l[k] = false) : sign (l.drop k) = none := by
  rw [drop_cons h, sign, if_neg h1, if_neg (by rw [h2]; decide)]
theorem sign_short {l : List UInt8} {k : Nat} (h : k < l.length) (h1 : l[k].toNat = 92) (h2 : l.length < k + 3) : sign (l.drop k) = none := by
  rw [drop_cons h, sign, if_pos h1]
  have hl : (l.drop (k + 1)).length < 2 := by rw [List.length_drop]; omega
  match l.drop (k + 1), hl with
  | [], _ => rfl
  | [_], _ => rfl
theorem sign_code {l : List UInt8} {k : Nat} (h : k + 2 < l.length) (h1 : l[k].toNat = 92) : sign (l.drop k) = (code2 l[k + 1] l[k + 2]).map fun x => (x, 2) := by
  rw [drop_cons (by omega), sign, if_pos h1, drop_cons (show k + 1 < l.length by omega), drop_cons (show k + 1 + 1 < l.length by omega)]; rfl

theorem bodyAt_le {l : List UInt8} : ∀ {k e : Nat} {t : List UInt8}, bodyAt l k = some (t, e) → k < e ∧ e ≤ l.length := by
  intro k
  induction hn : l.length - k using Nat.strongRecOn generalizing k with
  | _ n ih =>
    intro e t h
    by_cases hk : k < l.length
    · by_cases hq : l[k].toNat = 34
      · rw [bodyAt_end hk hq] at h
        injection h with h
        injection h with h1 h2
        omega
      · cases hs : sign (l.drop k) with
        | none => rw [bodyAt_none hk hq hs] at h; cases h
        | some p =>
          obtain ⟨c, m⟩ := p
          rw [bodyAt_some hk hq hs] at h
          cases hb : bodyAt l (k + m + 1) with
          | none => rw [hb] at h; cases h
          | some p =>
            obtain ⟨t', e'⟩ := p
            rw [hb] at h
            injection h with h
            injection h with h1 h2
            have := ih (l.length - (k + m + 1)) (by omega) rfl hb
            omega
    · rw [bodyAt_out hk] at h; cases h
theorem quotedAt_le {l : List UInt8} {k e : Nat} {t : List UInt8} (h : quotedAt l k = some (t, e)) : k < e ∧ e ≤ l.length := by
  unfold quotedAt at h
  split at h
  · split at h
    · have := bodyAt_le h; omega
    · cases h
  · cases h

end Punnet.Name
