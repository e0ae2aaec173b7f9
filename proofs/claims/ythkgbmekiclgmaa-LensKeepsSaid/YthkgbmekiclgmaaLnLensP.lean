/- Lenses as plain data: what chapter 15 says of them. -/
import Derived.Test.YthkgbmekiclgmaaLnSchemaP
namespace Go.Vm
set_option linter.unusedVariables false
set_option linter.unusedSimpArgs false

/-! ### Schemas as sorted lists -/
theorem bl_total : ∀ a b : List UInt8, Op.bytesLess a b = false → a ≠ b → Op.bytesLess b a = true
  | [], [], _, h => absurd rfl h
  | [], _ :: _, h, _ => by simp [Op.bytesLess] at h
  | _ :: _, [], _, _ => rfl
  | x :: a, y :: b, h, hn => by
    simp only [Op.bytesLess, Bool.or_eq_false_iff, decide_eq_false_iff_not, Bool.and_eq_false_iff, beq_eq_false_iff_ne, Bool.or_eq_true, decide_eq_true_eq, Bool.and_eq_true, beq_iff_eq] at h ⊢
    by_cases e : x = y
    · subst e
      right
      refine ⟨rfl, bl_total a b (by rcases h.2 with h | h; exact absurd rfl h; exact h) (fun k => hn (by rw [k]))⟩
    · left
      have h1 := h.1
      have : ¬ x.toNat = y.toNat := fun k => e (UInt8.toNat_inj.1 k)
      rw [UInt8.lt_iff_toNat_lt] at h1 ⊢
      omega
theorem ltB_total {a b : ByteArray} (h : ltB a b = false) (hn : a ≠ b) : ltB b a = true := by
  refine bl_total _ _ h fun k => hn ?_
  exact ByteArray.ext (Array.toList_inj.1 (by rw [← ByteArray.toList_eq, ← ByteArray.toList_eq]; exact k))
theorem lessB_total {a b : RefD} (h : lessB a b = false) (hn : a ≠ b) : lessB b a = true := by
  have h' : ¬ lessB a b = true := by rw [h]; simp
  rw [lessB_iff] at h' ⊢
  by_cases e1 : a.scope = b.scope
  · right
    refine ⟨e1.symm, ?_⟩
    by_cases e2 : a.group = b.group
    · right
      refine ⟨e2.symm, ltB_total ?_ fun k => hn ?_⟩
      · cases hc : ltB a.name b.name with
        | false => rfl
        | true => exact absurd (.inr ⟨e1, .inr ⟨e2, hc⟩⟩) h'
      · obtain ⟨s, g, n⟩ := a; obtain ⟨s', g', n'⟩ := b; simp only at e1 e2 k; rw [e1, e2, k]
    · left
      refine ltB_total ?_ e2
      cases hc : ltB a.group b.group with
      | false => rfl
      | true => exact absurd (.inr ⟨e1, .inl hc⟩) h'
  · left
    have : ¬ a.scope < b.scope := fun k => h' (.inl k)
    omega
theorem rightS_iff {l : List FieldD} : rightS l = true ↔ l.length ≤ 16 ∧ (∀ f ∈ l, rightF f = true) ∧ l.Pairwise fun a b => lessB a.at_ b.at_ = true := by
  constructor
  · intro h
    refine ⟨rightS_len h, fun f hf => ?_, ?_⟩
    · obtain ⟨i, hi, rfl⟩ := List.getElem_of_mem hf
      exact rightS_at h (List.getElem?_eq_getElem hi)
    · rw [List.pairwise_iff_getElem]
      intro i j hi hj hij
      exact rightS_lt h (j - i - 1) i (List.getElem?_eq_getElem hi) (by rw [show i + (j - i - 1) + 1 = j by omega]; exact List.getElem?_eq_getElem hj)
  · rintro ⟨h1, h2, h3⟩
    refine rightS_yes h1 (Nat.le_refl _) ?_
    unfold okSk
    rw [List.all_eq_true]
    intro j hj
    have hj := List.mem_range.1 hj
    rw [List.getElem?_eq_getElem hj, List.getElem?_eq_getElem (show j - 1 < l.length by omega)]
    simp only [Bool.and_eq_true]
    refine ⟨h2 _ (List.getElem_mem hj), ?_⟩
    by_cases e : j = 0
    · simp [e]
    · rw [List.pairwise_iff_getElem] at h3
      rw [h3 (j - 1) j (by omega) hj (by omega), Bool.or_true]
theorem rightS_del {l : List FieldD} (h : rightS l = true) (r : RefD) : rightS (delF l r) = true := by
  rw [rightS_iff] at *
  exact ⟨Nat.le_trans (List.length_filter_le ..) h.1, fun f hf => h.2.1 f (List.mem_filter.1 hf).1, h.2.2.filter _⟩
theorem takeW_all {α : Type} {p : α → Bool} {l : List α} : ∀ x ∈ l.takeWhile p, p x = true := by
  induction l with
  | nil => simp
  | cons a l ih =>
    intro x hx
    rw [List.takeWhile_cons] at hx
    split at hx
    · rcases List.mem_cons.1 hx with rfl | hx
      · assumption
      · exact ih x hx
    · cases hx
theorem dropW_sorted {l : List FieldD} {r : RefD} (h : l.Pairwise fun a b => lessB a.at_ b.at_ = true) (hn : ∀ g ∈ l, g.at_ ≠ r) : ∀ g ∈ l.dropWhile (fun g => lessB g.at_ r), lessB r g.at_ = true := by
  induction l with
  | nil => simp
  | cons a l ih =>
    intro g hg
    rw [List.dropWhile_cons] at hg
    split at hg
    · exact ih (List.pairwise_cons.1 h).2 (fun g hg => hn g (List.mem_cons_of_mem _ hg)) g hg
    · rename_i hf
      have ha : lessB r a.at_ = true := lessB_total (by simpa using hf) (hn a (List.mem_cons_self ..))
      rcases List.mem_cons.1 hg with rfl | hg
      · exact ha
      · exact lessB_trans ha ((List.pairwise_cons.1 h).1 g hg)
theorem mem_insF {l : List FieldD} {f g : FieldD} : g ∈ insF l f ↔ g = f ∨ g ∈ l := by
  have e : l.takeWhile (fun g => lessB g.at_ f.at_) ++ l.dropWhile (fun g => lessB g.at_ f.at_) = l := List.takeWhile_append_dropWhile
  unfold insF
  rw [List.mem_append, List.mem_cons]
  conv => rhs; rw [← e, List.mem_append]
  constructor <;> rintro (h | h | h) <;> simp [h]
theorem length_insF {l : List FieldD} {f : FieldD} : (insF l f).length = l.length + 1 := by
  have e : (l.takeWhile (fun g => lessB g.at_ f.at_) ++ l.dropWhile (fun g => lessB g.at_ f.at_)).length = l.length := by rw [List.takeWhile_append_dropWhile]
  unfold insF
  rw [List.length_append] at e ⊢
  rw [List.length_cons]; omega
theorem rightS_ins {l : List FieldD} {f : FieldD} (h : rightS l = true) (hf : rightF f = true) (hl : l.length < 16) (hn : ∀ g ∈ l, g.at_ ≠ f.at_) : rightS (insF l f) = true := by
  rw [rightS_iff] at *
  obtain ⟨h1, h2, h3⟩ := h
  refine ⟨by rw [length_insF]; omega, fun g hg => ?_, ?_⟩
  · rcases mem_insF.1 hg with rfl | hg
    · exact hf
    · exact h2 g hg
  · have hd := dropW_sorted h3 hn
    have e : l.takeWhile (fun g => lessB g.at_ f.at_) ++ l.dropWhile (fun g => lessB g.at_ f.at_) = l := List.takeWhile_append_dropWhile
    rw [← e] at h3
    obtain ⟨q1, q2, q3⟩ := List.pairwise_append.1 h3
    unfold insF
    refine List.pairwise_append.2 ⟨q1, List.pairwise_cons.2 ⟨hd, q2⟩, fun a ha b hb => ?_⟩
    rcases List.mem_cons.1 hb with rfl | hb
    · exact takeW_all (p := fun g => lessB g.at_ b.at_) a ha
    · exact q3 a ha b hb

/-! ### Looking a place up -/
theorem index_neg {l : List FieldD} {r : RefD} : indexS l r < 0 ↔ ∀ f ∈ l, f.at_ ≠ r := by
  rcases indexS_cases l r with ⟨h, h2⟩ | ⟨k, p, h, hp, e, _⟩
  · refine ⟨fun _ f hf => ?_, fun _ => by omega⟩
    obtain ⟨i, hi, rfl⟩ := List.getElem_of_mem hf
    exact h2 i _ (List.getElem?_eq_getElem hi)
  · exact ⟨fun h' => by omega, fun h' => absurd e (h' p (List.mem_of_getElem? hp))⟩
theorem index_pos {l : List FieldD} {r : RefD} : 0 ≤ indexS l r ↔ ∃ f ∈ l, f.at_ = r := by
  have := @index_neg l r
  constructor
  · intro h
    rcases indexS_cases l r with ⟨h', _⟩ | ⟨k, p, _, hp, e, _⟩
    · omega
    · exact ⟨p, List.mem_of_getElem? hp, e⟩
  · rintro ⟨f, hf, e⟩
    by_cases hn : indexS l r < 0
    · exact absurd e (this.1 hn f hf)
    · omega
theorem fieldAt_spec {l : List FieldD} {r : RefD} (h : ¬ indexS l r < 0) : fieldAt l r ∈ l ∧ (fieldAt l r).at_ = r := by
  rcases indexS_cases l r with ⟨h', _⟩ | ⟨k, p, h', hp, e, _⟩
  · omega
  · unfold fieldAt; rw [h', Int.toNat_natCast, hp]; exact ⟨List.mem_of_getElem? hp, e⟩
theorem fieldAt_uniq {l : List FieldD} (hr : rightS l = true) {f : FieldD} (hf : f ∈ l) : fieldAt l f.at_ = f := by
  have h0 : ¬ indexS l f.at_ < 0 := by rw [index_neg]; intro h; exact h f hf rfl
  obtain ⟨h1, h2⟩ := fieldAt_spec h0
  obtain ⟨i, hi, e1⟩ := List.getElem_of_mem h1
  obtain ⟨j, hj, e2⟩ := List.getElem_of_mem hf
  have := rightS_uniq hr (i := i) (j := j) (p := fieldAt l f.at_) (q := f) (by rw [List.getElem?_eq_getElem hi, e1]) (by rw [List.getElem?_eq_getElem hj, e2]) h2
  subst this
  rw [← e1, e2]
/-- Two right schemas that have the same field at a place, or both none. -/
theorem find_same {l m : List FieldD} {r : RefD} (hl : rightS l = true) (hm : rightS m = true) (h : ∀ f, f.at_ = r → (f ∈ l ↔ f ∈ m)) : findS l r = findS m r := by
  unfold findS
  by_cases h0 : indexS l r < 0
  · have h1 : indexS m r < 0 := by
      rw [index_neg] at *
      intro f hf e
      exact h0 f ((h f e).2 hf) e
    rw [if_pos h0, if_pos h1]
  · obtain ⟨h1, h2⟩ := fieldAt_spec h0
    have h3 := (h _ h2).1 h1
    have h4 := fieldAt_uniq hm h3
    rw [h2] at h4
    have h5 : ¬ indexS m r < 0 := by rw [index_neg]; intro k; exact k _ h3 h2
    rw [if_neg h0, if_neg h5, h4]

/-! ### Lenses -/
def caseT (t : List (ByteArray × ByteArray)) (s : ByteArray) : ByteArray × Bool := match t.find? fun p => decide (p.1 = s) with
  | some p => (p.2, true)
  | none => (noB, false)
def froms (t : List (ByteArray × ByteArray)) : List ByteArray := t.map (·.1)
theorem caseT_some {t : List (ByteArray × ByteArray)} {s : ByteArray} : (caseT t s).2 = decide (s ∈ froms t) := by
  unfold caseT froms
  cases h : t.find? fun p => decide (p.1 = s) with
  | none =>
    rw [List.find?_eq_none] at h
    symm
    simp only [decide_eq_false_iff_not, List.mem_map, not_exists, not_and]
    intro p hp e
    exact h p hp (by simpa using e)
  | some p =>
    have h1 := List.find?_some h
    have h2 := List.mem_of_find?_eq_some h
    symm
    simp only [decide_eq_true_eq] at h1
    rw [decide_eq_true_eq, ← h1]
    exact List.mem_map.2 ⟨p, h2, rfl⟩
def okT (t o : List (ByteArray × ByteArray)) (k : Nat) : Bool := (List.range k).all fun j => match t[j]? with
  | some p => nameB p.1 && !decide (p.1 ∈ froms (t.take j)) && decide (p.2 ∈ froms o)
  | none => true
def rightT (t o : List (ByteArray × ByteArray)) : Bool := decide (1 ≤ t.length) && decide (t.length ≤ 6) && okT t o t.length
theorem okT_zero (t o : List (ByteArray × ByteArray)) : okT t o 0 = true := rfl
theorem okT_next {t o : List (ByteArray × ByteArray)} {k : Nat} {p : ByteArray × ByteArray} (hp : t[k]? = some p) (h : okT t o k = true) (h1 : nameB p.1 = true) (h2 : ¬ p.1 ∈ froms (t.take k)) (h3 : p.2 ∈ froms o) : okT t o (k + 1) = true := by
  unfold okT at *
  rw [List.range_succ, List.all_append, h]
  simp [hp, h1, h2, h3]
theorem rightT_no {t o : List (ByteArray × ByteArray)} {k : Nat} {p : ByteArray × ByteArray} (hp : t[k]? = some p) (h : (nameB p.1 && !decide (p.1 ∈ froms (t.take k)) && decide (p.2 ∈ froms o)) = false) : rightT t o = false := by
  unfold rightT okT
  rw [Bool.and_eq_false_iff]
  right
  rw [List.all_eq_false]
  exact ⟨k, List.mem_range.2 (lt_len hp), by simp only [hp, h]; simp⟩
theorem rightT_yes {t o : List (ByteArray × ByteArray)} {k : Nat} (h1 : 1 ≤ t.length) (h2 : t.length ≤ 6) (hk : t.length ≤ k) (h : okT t o k = true) : rightT t o = true := by
  unfold rightT
  rw [decide_eq_true h1, decide_eq_true h2, Bool.true_and, Bool.true_and]
  unfold okT at *
  rw [List.all_eq_true] at *
  intro j hj
  exact h j (List.mem_range.2 (by have := List.mem_range.1 hj; omega))
theorem rightT_short {t o : List (ByteArray × ByteArray)} (h : t.length < 1) : rightT t o = false := by unfold rightT; rw [decide_eq_false (by omega)]; rfl
theorem rightT_long {t o : List (ByteArray × ByteArray)} (h : 6 < t.length) : rightT t o = false := by unfold rightT; rw [decide_eq_false (show ¬ t.length ≤ 6 by omega), Bool.and_false]; rfl
theorem rightT_name {t o : List (ByteArray × ByteArray)} {s : ByteArray} (h : rightT t o = true) (hs : (caseT t s).2 = true) : nameB s = true := by
  rw [caseT_some, decide_eq_true_eq] at hs
  obtain ⟨p, hp, rfl⟩ := List.mem_map.1 hs
  obtain ⟨i, hi, rfl⟩ := List.getElem_of_mem hp
  unfold rightT okT at h
  simp only [Bool.and_eq_true, List.all_eq_true] at h
  have := h.2 i (List.mem_range.2 hi)
  rw [List.getElem?_eq_getElem hi] at this
  simp only [Bool.and_eq_true] at this
  exact this.1.1
/-- Is a lens right? -/
def rightL (x : LensD) : Bool :=
  if x.kind = 2 ∨ x.kind = 3 then decide (x.at_ = noRef) && decide (x.name = noB) && decide (x.other = noB) && decide (x.factor = 0) && decide (x.forth.length = 0) && decide (x.back.length = 0) && rightF x.field
  else placeB x.at_ && decide (x.field = noField) &&
    (if x.kind = 8 then decide (x.factor = 0) && rightT x.forth x.back && rightT x.back x.forth && decide (caseT x.forth x.name = (x.other, true)) && decide (caseT x.back x.other = (x.name, true))
     else decide (x.forth.length = 0) && decide (x.back.length = 0) &&
      (if x.kind = 6 ∨ x.kind = 9 then nameB x.name && nameB x.other && !decide (x.name = x.other) && decide (2 ≤ x.factor) && decide (x.factor ≤ 1000)
       else decide (x.factor = 0) &&
        (if x.kind = 7 ∨ x.kind = 10 then decide (x.name = noB) && decide (x.other.size ≤ 40)
         else decide (x.other = noB) && (if x.kind = 1 then nameB x.name else if x.kind = 4 then decide (x.name = noB) && !decide (x.at_.group = noB) else if x.kind = 5 then decide (x.at_.group = noB) && nameB x.name else false))))
def named (r : RefD) (s : ByteArray) : RefD := ⟨r.scope, r.group, s⟩
def goesL (x : LensD) : List RefD := if x.kind = 2 then [] else if x.kind = 3 then [x.field.at_] else if x.kind = 9 then [named x.at_ x.name, named x.at_ x.other] else [x.at_]
def comesL (x : LensD) : List RefD := if x.kind = 2 then [x.field.at_] else if x.kind = 3 then [] else if x.kind = 6 then [named x.at_ x.name, named x.at_ x.other] else if x.kind = 1 then [named x.at_ x.name]
  else if x.kind = 4 then [⟨x.at_.scope, noB, x.at_.name⟩] else if x.kind = 5 then [⟨x.at_.scope, x.name, x.at_.name⟩] else [x.at_]
/-- What comes over a right lens from a right schema; none: it doesn't fit. -/
def newsL (l : List FieldD) (x : LensD) : Option (List FieldD) :=
  if x.kind = 2 then some [x.field]
  else if x.kind = 3 then (if fieldAt l x.field.at_ = x.field then some [] else none)
  else if x.kind = 9 then (if (fieldAt l (named x.at_ x.name)).kind = 1 ∧ (fieldAt l (named x.at_ x.other)).kind = 1 ∧ (fieldAt l (named x.at_ x.other)).worth = (fieldAt l (named x.at_ x.name)).worth * x.factor then some [⟨x.at_, 1, noB, [], (fieldAt l (named x.at_ x.name)).worth⟩] else none)
  else if x.kind = 6 then (if (fieldAt l x.at_).kind = 1 then some [⟨named x.at_ x.name, 1, noB, [], (fieldAt l x.at_).worth⟩, ⟨named x.at_ x.other, 1, noB, [], (fieldAt l x.at_).worth * x.factor⟩] else none)
  else if x.kind = 7 then (if (fieldAt l x.at_).kind = 2 ∧ (fieldAt l x.at_).deft = x.other then some [⟨x.at_, 4, noB, [], 0⟩] else none)
  else if x.kind = 10 then (if (fieldAt l x.at_).kind = 4 then some [⟨x.at_, 2, x.other, [], 0⟩] else none)
  else if x.kind = 8 then (if fieldAt l x.at_ = ⟨x.at_, 3, x.name, froms x.forth, 0⟩ then some [⟨x.at_, 3, x.other, froms x.back, 0⟩] else none)
  else some (match comesL x with | [] => [] | c :: _ => [⟨c, (fieldAt l x.at_).kind, (fieldAt l x.at_).deft, (fieldAt l x.at_).cases, (fieldAt l x.at_).worth⟩])
def withAll : List FieldD → List FieldD → List FieldD × Int
  | l, [] => (l, 0)
  | l, f :: fs => if (withS l f).2 = 0 then withAll (withS l f).1 fs else ([], 16)
def delAll (l : List FieldD) (rs : List RefD) : List FieldD := rs.foldl delF l
/-- Where a lens leads. -/
def applyS (l : List FieldD) (x : LensD) : List FieldD × Int :=
  if (rightS l && rightL x) = false then ([], 5)
  else if (goesL x).any (fun g => decide (indexS l g < 0)) then ([], 16)
  else match newsL l x with
    | none => ([], 16)
    | some fs => withAll (delAll l (goesL x)) fs
end Go.Vm
