/- Schemas as plain data: what chapter 14 says of them. -/
import Derived.Test.YthkgbmekiclgmaaLnField
namespace Go.Vm
set_option linter.unusedVariables false
set_option linter.unusedSimpArgs false

/-! ### Order -/
theorem bl_irrefl : ∀ a : List UInt8, Op.bytesLess a a = false
  | [] => rfl
  | x :: l => by simp [Op.bytesLess, bl_irrefl l, UInt8.lt_irrefl]
theorem bl_trans : ∀ a b c : List UInt8, Op.bytesLess a b = true → Op.bytesLess b c = true → Op.bytesLess a c = true
  | [], _, [], h, h2 => by cases ‹List UInt8› <;> simp [Op.bytesLess] at h h2
  | [], _, _ :: _, _, _ => rfl
  | _ :: _, [], _, h, _ => by simp [Op.bytesLess] at h
  | _ :: _, _ :: _, [], _, h => by simp [Op.bytesLess] at h
  | x :: a, y :: b, z :: c, h, h2 => by
    simp only [Op.bytesLess, Bool.or_eq_true, Bool.and_eq_true, decide_eq_true_eq, beq_iff_eq] at h h2 ⊢
    rcases h with h | ⟨rfl, h⟩
    · rcases h2 with h2 | ⟨rfl, h2⟩
      · exact .inl (UInt8.lt_trans h h2)
      · exact .inl h
    · rcases h2 with h2 | ⟨rfl, h2⟩
      · exact .inl h2
      · exact .inr ⟨rfl, bl_trans a b c h h2⟩
theorem ltB_irrefl (a : ByteArray) : ltB a a = false := bl_irrefl _
theorem ltB_trans {a b c : ByteArray} (h : ltB a b = true) (h2 : ltB b c = true) : ltB a c = true := bl_trans _ _ _ h h2
theorem lessB_irrefl (r : RefD) : lessB r r = false := by simp [lessB, ltB_irrefl]
theorem lessB_iff {a b : RefD} : lessB a b = true ↔ a.scope < b.scope ∨ a.scope = b.scope ∧ (ltB a.group b.group = true ∨ a.group = b.group ∧ ltB a.name b.name = true) := by
  unfold lessB
  by_cases e1 : a.scope = b.scope
  · rw [if_neg (by simpa using e1)]
    by_cases e2 : a.group = b.group
    · rw [if_neg (by simpa using e2), e2, ltB_irrefl]; simp [e1]
    · rw [if_pos e2]; simp [e1, e2]
  · rw [if_pos e1]; simp [e1]
theorem lessB_trans {a b c : RefD} (h : lessB a b = true) (h2 : lessB b c = true) : lessB a c = true := by
  rw [lessB_iff] at *
  rcases h with h | ⟨e, h⟩
  · rcases h2 with h2 | ⟨e2, h2⟩
    · left; omega
    · left; omega
  · rcases h2 with h2 | ⟨e2, h2⟩
    · left; omega
    · right
      refine ⟨by omega, ?_⟩
      rcases h with h | ⟨g, h⟩
      · rcases h2 with h2 | ⟨g2, h2⟩
        · exact .inl (ltB_trans h h2)
        · exact .inl (g2 ▸ h)
      · rcases h2 with h2 | ⟨g2, h2⟩
        · exact .inl (g ▸ h2)
        · exact .inr ⟨g.trans g2, ltB_trans h h2⟩

/-! ### Schemas -/
/-- A list of fields that isn't long. -/
def okL (l : List FieldD) : Prop := l.length ≤ 1000 ∧ ∀ f ∈ l, f.cases.length ≤ 1000000
theorem okL.at {l : List FieldD} {k : Nat} {p : FieldD} (h : okL l) (hp : l[k]? = some p) : p.cases.length ≤ 1000000 := h.2 p (List.mem_of_getElem? hp)
def okSk (l : List FieldD) (k : Nat) : Bool := (List.range k).all fun j => match l[j]? with
  | some f => rightF f && (match l[j - 1]? with | some g => decide (j = 0) || lessB g.at_ f.at_ | none => true)
  | none => true
/-- Is a schema right? -/
def rightS (l : List FieldD) : Bool := decide (l.length ≤ 16) && okSk l l.length
theorem okSk_zero (l : List FieldD) : okSk l 0 = true := rfl
theorem okSk_first {l : List FieldD} {p : FieldD} (hp : l[0]? = some p) (h : okSk l 0 = true) (h1 : rightF p = true) : okSk l (0 + 1) = true := by
  unfold okSk at *
  rw [List.range_succ, List.all_append, h]
  simp [hp, h1]
theorem okSk_next {l : List FieldD} {k : Nat} {p q : FieldD} (hp : l[k]? = some p) (hq : l[k - 1]? = some q) (h : okSk l k = true) (h1 : rightF p = true) (h2 : lessB q.at_ p.at_ = true) : okSk l (k + 1) = true := by
  unfold okSk at *
  rw [List.range_succ, List.all_append, h]
  simp [hp, hq, h1, h2]
theorem rightS_no {l : List FieldD} {k : Nat} {p : FieldD} (hp : l[k]? = some p) (h : rightF p = false) : rightS l = false := by
  unfold rightS okSk
  rw [Bool.and_eq_false_iff]
  right
  rw [List.all_eq_false]
  exact ⟨k, List.mem_range.2 (lt_len hp), by simp [hp, h]⟩
theorem rightS_un {l : List FieldD} {k : Nat} {p q : FieldD} (hp : l[k]? = some p) (hq : l[k - 1]? = some q) (h0 : ¬ k = 0) (h : lessB q.at_ p.at_ = false) : rightS l = false := by
  unfold rightS okSk
  rw [Bool.and_eq_false_iff]
  right
  rw [List.all_eq_false]
  exact ⟨k, List.mem_range.2 (lt_len hp), by simp [hp, hq, h, h0]⟩
theorem rightS_yes {l : List FieldD} {k : Nat} (h1 : l.length ≤ 16) (hk : l.length ≤ k) (h : okSk l k = true) : rightS l = true := by
  unfold rightS
  rw [decide_eq_true h1, Bool.true_and]
  unfold okSk at *
  rw [List.all_eq_true] at *
  intro j hj
  exact h j (List.mem_range.2 (by have := List.mem_range.1 hj; omega))
theorem rightS_long {l : List FieldD} (h : 16 < l.length) : rightS l = false := by unfold rightS; rw [decide_eq_false (by omega)]; rfl
theorem prev_at {α : Type} {l : List α} {k : Nat} {p : α} (hp : l[k]? = some p) : ∃ q, l[k - 1]? = some q := ⟨_, List.getElem?_eq_getElem (by have := lt_len hp; omega)⟩
theorem map_prev' {α : Type} {f : α → D} {l : List α} {k : Nat} {q : α} (h : l[k - 1]? = some q) (h0 : 0 < k) : (l.map f)[(((k : Nat) : Int) - 1).toNat]? = some (f q) := by
  rw [show (((k : Nat) : Int) - 1).toNat = k - 1 by omega, List.getElem?_map, h]; rfl

theorem rightS_len {l : List FieldD} (h : rightS l = true) : l.length ≤ 16 := by
  unfold rightS at h; simp only [Bool.and_eq_true, decide_eq_true_eq] at h; exact h.1
theorem rightS_at {l : List FieldD} {k : Nat} {p : FieldD} (h : rightS l = true) (hp : l[k]? = some p) : rightF p = true := by
  unfold rightS okSk at h
  simp only [Bool.and_eq_true, decide_eq_true_eq, List.all_eq_true] at h
  have := h.2 k (List.mem_range.2 (lt_len hp))
  rw [hp] at this
  simp only [Bool.and_eq_true] at this
  exact this.1
theorem rightS_adj {l : List FieldD} {k : Nat} {p q : FieldD} (h : rightS l = true) (hp : l[k]? = some p) (hq : l[k + 1]? = some q) : lessB p.at_ q.at_ = true := by
  unfold rightS okSk at h
  simp only [Bool.and_eq_true, decide_eq_true_eq, List.all_eq_true] at h
  have := h.2 (k + 1) (List.mem_range.2 (lt_len hq))
  rw [hq] at this
  simp only [Bool.and_eq_true, Nat.add_sub_cancel, hp, Nat.add_eq_zero_iff, Nat.one_ne_zero, and_false, decide_false, Bool.false_or] at this
  exact this.2
theorem rightS_lt {l : List FieldD} (h : rightS l = true) : ∀ (d i : Nat) {p q : FieldD}, l[i]? = some p → l[i + d + 1]? = some q → lessB p.at_ q.at_ = true
  | 0, i, p, q, hp, hq => rightS_adj h hp hq
  | d + 1, i, p, q, hp, hq => by
    have hlt := lt_len hq
    obtain ⟨r, hr⟩ : ∃ r, l[i + d + 1]? = some r := ⟨_, List.getElem?_eq_getElem (by omega)⟩
    exact lessB_trans (rightS_lt h d i hp hr) (rightS_adj h hr (by rw [show i + d + 1 + 1 = i + (d + 1) + 1 by omega]; exact hq))
/-- No two fields of a right schema stand at one place. -/
theorem rightS_uniq {l : List FieldD} (h : rightS l = true) {i j : Nat} {p q : FieldD} (hp : l[i]? = some p) (hq : l[j]? = some q) (e : p.at_ = q.at_) : i = j := by
  rcases Nat.lt_trichotomy i j with hlt | rfl | hlt
  · have := rightS_lt h (j - i - 1) i hp (by rw [show i + (j - i - 1) + 1 = j by omega]; exact hq)
    rw [e, lessB_irrefl] at this; cases this
  · rfl
  · have := rightS_lt h (i - j - 1) j hq (by rw [show j + (i - j - 1) + 1 = i by omega]; exact hp)
    rw [e, lessB_irrefl] at this; cases this
theorem rightF_cases {f : FieldD} (h : rightF f = true) : f.cases.length ≤ 1000000 := by
  unfold rightF at h
  simp only [Bool.and_eq_true] at h
  have h := h.2
  split at h
  · simp only [Bool.and_eq_true, decide_eq_true_eq] at h; omega
  split at h
  · simp only [Bool.and_eq_true, decide_eq_true_eq] at h; omega
  split at h
  · simp only [Bool.and_eq_true, decide_eq_true_eq, casesB] at h; omega
  split at h
  · simp only [Bool.and_eq_true, decide_eq_true_eq] at h; omega
  · cases h
theorem okL_right {l : List FieldD} (h : rightS l = true) : okL l := by
  refine ⟨by have := rightS_len h; omega, fun f hf => ?_⟩
  obtain ⟨i, hi, rfl⟩ := List.getElem_of_mem hf
  have := rightS_at h (List.getElem?_eq_getElem hi)
  exact rightF_cases this

def indexS (l : List FieldD) (r : RefD) : Int := if (l.findIdx fun f => decide (f.at_ = r)) < l.length then ((l.findIdx fun f => decide (f.at_ = r) : Nat) : Int) else -1
theorem indexS_hit {l : List FieldD} {r : RefD} {k : Nat} {p : FieldD} (hp : l[k]? = some p) (h : ∀ j q, j < k → l[j]? = some q → ¬ q.at_ = r) (hn : p.at_ = r) : indexS l r = (k : Int) := by
  obtain ⟨hlt, hpe⟩ := List.getElem?_eq_some_iff.1 hp
  have e : l.findIdx (fun f => decide (f.at_ = r)) = k := by
    rw [List.findIdx_eq hlt]
    refine ⟨by simp [hpe, hn], fun j hj => ?_⟩
    simp only [decide_eq_false_iff_not]
    exact h j _ hj (List.getElem?_eq_getElem (by omega))
  unfold indexS
  rw [e, if_pos hlt]
theorem indexS_miss {l : List FieldD} {r : RefD} {k : Nat} (hk : l.length ≤ k) (h : ∀ j q, j < k → l[j]? = some q → ¬ q.at_ = r) : indexS l r = -1 := by
  unfold indexS
  rw [if_neg]
  intro hlt
  have h1 := List.findIdx_getElem (w := hlt)
  exact h _ _ (by omega) (List.getElem?_eq_getElem hlt) (of_decide_eq_true h1)
theorem none_next {l : List FieldD} {r : RefD} {k : Nat} {p : FieldD} (hp : l[k]? = some p) (h : ∀ j q, j < k → l[j]? = some q → ¬ q.at_ = r) (hn : ¬ p.at_ = r) : ∀ j q, j < k + 1 → l[j]? = some q → ¬ q.at_ = r := by
  intro j q hj hq
  by_cases e : j = k
  · subst e; rw [hp] at hq; injection hq with hq; subst hq; exact hn
  · exact h j q (by omega) hq
/-- Either a place has a first field, or none. -/
theorem indexS_cases (l : List FieldD) (r : RefD) : (indexS l r = -1 ∧ ∀ (j : Nat) (q : FieldD), l[j]? = some q → ¬ q.at_ = r) ∨ ∃ (k : Nat) (p : FieldD), indexS l r = (k : Int) ∧ l[k]? = some p ∧ p.at_ = r ∧ ∀ (j : Nat) (q : FieldD), j < k → l[j]? = some q → ¬ q.at_ = r := by
  unfold indexS
  by_cases h : (l.findIdx fun f => decide (f.at_ = r)) < l.length
  · right
    rw [if_pos h]
    refine ⟨_, _, rfl, List.getElem?_eq_getElem h, of_decide_eq_true (List.findIdx_getElem (w := h)), fun j q hj hq => ?_⟩
    have := List.not_of_lt_findIdx hj
    obtain ⟨hlt, rfl⟩ := List.getElem?_eq_some_iff.1 hq
    simpa using this
  · left
    rw [if_neg h]
    refine ⟨rfl, fun j q hq e => h ?_⟩
    obtain ⟨hlt, rfl⟩ := List.getElem?_eq_some_iff.1 hq
    exact List.findIdx_lt_length_of_exists ⟨_, List.getElem_mem hlt, by simpa using e⟩

/-- The field of a place. -/
def fieldAt (l : List FieldD) (r : RefD) : FieldD := match l[(indexS l r).toNat]? with
  | some f => f
  | none => noField
def findS (l : List FieldD) (r : RefD) : FieldD × Int := if indexS l r < 0 then (noField, 6) else (fieldAt l r, 0)
def insF (l : List FieldD) (f : FieldD) : List FieldD := (l.takeWhile fun g => lessB g.at_ f.at_) ++ f :: (l.dropWhile fun g => lessB g.at_ f.at_)
def withS (l : List FieldD) (f : FieldD) : List FieldD × Int :=
  if (rightS l && rightF f) = false then ([], 5) else if 0 ≤ indexS l f.at_ then ([], 7) else if 16 ≤ l.length then ([], 14) else (insF l f, 0)
def delF (l : List FieldD) (r : RefD) : List FieldD := l.filter fun f => !decide (f.at_ = r)
def withoutS (l : List FieldD) (r : RefD) : List FieldD × Int := if rightS l = false then ([], 5) else if indexS l r < 0 then ([], 6) else (delF l r, 0)

theorem ins_at {l : List FieldD} {f : FieldD} {k : Nat} (h1 : ∀ j q, j < k → l[j]? = some q → lessB q.at_ f.at_ = true) (h2 : l.length ≤ k ∨ ∃ q, l[k]? = some q ∧ lessB q.at_ f.at_ = false) : insF l f = l.take k ++ f :: l.drop k := by
  have key : ∀ (l : List FieldD) (k : Nat), (∀ j q, j < k → l[j]? = some q → lessB q.at_ f.at_ = true) → (l.length ≤ k ∨ ∃ q, l[k]? = some q ∧ lessB q.at_ f.at_ = false) → (l.takeWhile fun g => lessB g.at_ f.at_) = l.take k ∧ (l.dropWhile fun g => lessB g.at_ f.at_) = l.drop k := by
    intro l
    induction l with
    | nil => intro k _ _; simp
    | cons x l ih =>
      intro k h1 h2
      cases k with
      | zero =>
        rcases h2 with h2 | ⟨q, hq, h2⟩
        · simp at h2
        · simp at hq; subst hq; simp [h2]
      | succ k =>
        have hx := h1 0 x (by omega) rfl
        obtain ⟨e1, e2⟩ := ih k (fun j q hj hq => h1 (j + 1) q (by omega) (by simpa using hq)) (by
          rcases h2 with h2 | ⟨q, hq, h2⟩
          · left; simp at h2; omega
          · right; exact ⟨q, by simpa using hq, h2⟩)
        simp [hx, e1, e2]
  unfold insF
  rw [(key l k h1 h2).1, (key l k h1 h2).2]
end Go.Vm
