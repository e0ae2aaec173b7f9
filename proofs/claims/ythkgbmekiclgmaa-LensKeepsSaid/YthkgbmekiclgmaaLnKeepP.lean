/- What a lens doesn't touch stays: the plain law. -/
import Derived.Test.YthkgbmekiclgmaaLnLensP
namespace Go.Vm
set_option linter.unusedVariables false
set_option linter.unusedSimpArgs false

theorem length_delF {l : List FieldD} {r : RefD} (h : l.Pairwise fun a b => lessB a.at_ b.at_ = true) (h0 : ∃ f ∈ l, f.at_ = r) : (delF l r).length + 1 = l.length := by
  induction l with
  | nil => obtain ⟨f, hf, _⟩ := h0; cases hf
  | cons a l ih =>
    obtain ⟨h1, h2⟩ := List.pairwise_cons.1 h
    unfold delF at *
    by_cases e : a.at_ = r
    · have hall : l.filter (fun f => !decide (f.at_ = r)) = l := by
        rw [List.filter_eq_self]
        intro g hg
        have := h1 g hg
        simp only [Bool.not_eq_true', decide_eq_false_iff_not]
        intro e2
        rw [e, e2, lessB_irrefl] at this; cases this
      rw [List.filter_cons_of_neg (by simp [e]), hall, List.length_cons]
    · rw [List.filter_cons_of_pos (by simp [e]), List.length_cons, List.length_cons]
      have := ih h2 (by
        obtain ⟨f, hf, e2⟩ := h0
        rcases List.mem_cons.1 hf with rfl | hf
        · exact absurd e2 e
        · exact ⟨f, hf, e2⟩)
      omega
theorem mem_delF {l : List FieldD} {r : RefD} {f : FieldD} : f ∈ delF l r ↔ f ∈ l ∧ f.at_ ≠ r := by
  unfold delF; rw [List.mem_filter]; simp
theorem mem_delAll {rs : List RefD} : ∀ {l : List FieldD} {f : FieldD}, f ∈ delAll l rs ↔ f ∈ l ∧ f.at_ ∉ rs := by
  induction rs with
  | nil => intro l f; simp [delAll]
  | cons r rs ih =>
    intro l f
    have : delAll l (r :: rs) = delAll (delF l r) rs := rfl
    rw [this, ih, mem_delF, List.mem_cons]
    constructor
    · rintro ⟨⟨h1, h2⟩, h3⟩; exact ⟨h1, fun k => k.elim h2 h3⟩
    · rintro ⟨h1, h2⟩; exact ⟨⟨h1, fun k => h2 (.inl k)⟩, fun k => h2 (.inr k)⟩
theorem rightS_delAll {rs : List RefD} : ∀ {l : List FieldD}, rightS l = true → rightS (delAll l rs) = true := by
  induction rs with
  | nil => intro l h; exact h
  | cons r rs ih => intro l h; exact ih (rightS_del h r)
theorem length_delAll {rs : List RefD} : ∀ {l : List FieldD}, rightS l = true → rs.Nodup → (∀ r ∈ rs, 0 ≤ indexS l r) → (delAll l rs).length + rs.length = l.length := by
  induction rs with
  | nil => intro l _ _ _; rfl
  | cons r rs ih =>
    intro l h hnd hall
    obtain ⟨hr, hnd⟩ := List.nodup_cons.1 hnd
    have h1 := length_delF (rightS_iff.1 h).2.2 (index_pos.1 (hall r (List.mem_cons_self ..)))
    have h2 := ih (rightS_del h r) hnd (fun s hs => by
      obtain ⟨f, hf, e⟩ := index_pos.1 (hall s (List.mem_cons_of_mem _ hs))
      refine index_pos.2 ⟨f, mem_delF.2 ⟨hf, ?_⟩, e⟩
      rintro rfl
      exact hr (e ▸ hs))
    have : delAll l (r :: rs) = delAll (delF l r) rs := rfl
    rw [this, List.length_cons]; omega
theorem withS_ok {l : List FieldD} {f : FieldD} (h : (withS l f).2 = 0) : rightS l = true ∧ rightF f = true ∧ indexS l f.at_ < 0 ∧ l.length < 16 ∧ (withS l f).1 = insF l f := by
  unfold withS at *
  split at h
  · simp at h
  rename_i h1
  split at h
  · simp at h
  rename_i h2
  split at h
  · simp at h
  rename_i h3
  rw [if_neg h1, if_neg h2, if_neg h3]
  simp only [Bool.not_eq_false, Bool.and_eq_true] at h1
  exact ⟨h1.1, h1.2, by omega, by omega, rfl⟩
theorem withAll_ok : ∀ {fs l : List FieldD}, rightS l = true → (withAll l fs).2 = 0 → rightS (withAll l fs).1 = true ∧ (withAll l fs).1.length = l.length + fs.length ∧ ∀ g, g ∈ (withAll l fs).1 ↔ g ∈ fs ∨ g ∈ l
  | [], l, h, _ => ⟨h, rfl, fun g => by simp [withAll]⟩
  | f :: fs, l, h, h0 => by
    unfold withAll at *
    split at h0
    · rename_i hw
      rw [if_pos hw]
      obtain ⟨q1, q2, q3, q4, q5⟩ := withS_ok hw
      rw [q5] at h0 ⊢
      have hr := rightS_ins q1 q2 q4 (index_neg.1 q3)
      obtain ⟨k1, k2, k3⟩ := withAll_ok hr h0
      refine ⟨k1, by rw [k2, length_insF, List.length_cons]; omega, fun g => ?_⟩
      rw [k3, mem_insF, List.mem_cons]
      constructor
      · rintro (h | h | h) <;> simp [h]
      · rintro ((h | h) | h) <;> simp [h]
    · simp at h0
theorem news_comes {l : List FieldD} {x : LensD} {fs : List FieldD} (h : newsL l x = some fs) : fs.map (·.at_) = comesL x := by
  unfold newsL at h
  split at h
  · injection h with h; subst h; simp [comesL, *]
  split at h
  · split at h
    · injection h with h; subst h; simp [comesL, *]
    · cases h
  split at h
  · split at h
    · injection h with h; subst h; simp [comesL, *]
    · cases h
  split at h
  · split at h
    · injection h with h; subst h; simp [comesL, *]
    · cases h
  split at h
  · split at h
    · injection h with h; subst h; simp [comesL, *]
    · cases h
  split at h
  · split at h
    · injection h with h; subst h; simp [comesL, *]
    · cases h
  split at h
  · split at h
    · injection h with h; subst h; simp [comesL, *]
    · cases h
  · injection h with h; subst h
    cases hc : comesL x with
    | nil => rfl
    | cons c cs =>
      have : cs = [] := by
        unfold comesL at hc
        repeat (split at hc; · first | (injection hc with _ hc; exact hc.symm) | (simp_all))
        injection hc with _ hc; exact hc.symm
      subst this; rfl
theorem goes_nodup {x : LensD} (h : rightL x = true) : (goesL x).Nodup := by
  unfold goesL
  split
  · simp
  split
  · simp
  split
  · rename_i h2 h3 h9
    unfold rightL at h
    rw [if_neg (by omega), if_neg (show ¬ x.kind = 8 by omega), if_pos (show x.kind = 6 ∨ x.kind = 9 from .inr h9)] at h
    simp only [Bool.and_eq_true, Bool.not_eq_true', decide_eq_false_iff_not] at h
    have hne := h.2.2.1.1.2
    refine List.nodup_cons.2 ⟨?_, by simp⟩
    simp only [List.mem_singleton, named]
    intro e
    injection e with _ _ e
    exact hne e
  · simp
/-- From a right schema a lens that fits leads to a right one, and what it doesn't touch stays. -/
theorem keeps {l m : List FieldD} {x : LensD} (h : applyS l x = (m, 0)) :
    rightS l = true ∧ rightL x = true ∧ rightS m = true ∧ m.length + (goesL x).length = l.length + (comesL x).length ∧ (∀ c ∈ comesL x, 0 ≤ indexS m c) ∧ ∀ r, r ∉ goesL x → r ∉ comesL x → findS l r = findS m r := by
  unfold applyS at h
  split at h
  · simp at h
  rename_i h1
  split at h
  · simp at h
  rename_i h2
  split at h
  · simp at h
  rename_i fs hfs
  simp only [Bool.not_eq_false, Bool.and_eq_true] at h1
  simp only [Bool.not_eq_true, List.any_eq_false, decide_eq_true_eq] at h2
  obtain ⟨hl, hx⟩ := h1
  have hd := rightS_delAll (rs := goesL x) hl
  have hm0 : (withAll (delAll l (goesL x)) fs).2 = 0 := by rw [h]
  obtain ⟨k1, k2, k3⟩ := withAll_ok hd hm0
  rw [h] at k1 k2 k3
  have hlen := length_delAll hl (goes_nodup hx) (fun r hr => by have := h2 r hr; omega)
  have hc := news_comes hfs
  refine ⟨hl, hx, k1, ?_, fun c hcm => ?_, fun r hg hcm => find_same hl k1 fun f e => ?_⟩
  · rw [← hc, List.length_map]; simp only at k2; omega
  · rw [← hc] at hcm
    obtain ⟨f, hf, rfl⟩ := List.mem_map.1 hcm
    exact index_pos.2 ⟨f, (k3 f).2 (.inl hf), rfl⟩
  · rw [k3, mem_delAll]
    constructor
    · intro hf; exact .inr ⟨hf, by rw [e]; exact hg⟩
    · rintro (hf | ⟨hf, _⟩)
      · exfalso
        apply hcm
        rw [← hc, ← e]
        exact List.mem_map.2 ⟨f, hf, rfl⟩
      · exact hf
theorem apply_err {l : List FieldD} {x : LensD} (h : (applyS l x).2 ≠ 0) : (applyS l x).1 = [] := by
  have key : ∀ fs l, (withAll l fs).2 ≠ 0 → (withAll l fs).1 = [] := by
    intro fs
    induction fs with
    | nil => intro l h; exact absurd rfl h
    | cons f fs ih =>
      intro l h
      unfold withAll at h ⊢
      split
      · rename_i hw; rw [if_pos hw] at h; exact ih _ h
      · rfl
  unfold applyS at *
  split
  · rfl
  split
  · rfl
  split
  · rfl
  rename_i h1 h2 _ fs hfs
  rw [if_neg h1, if_neg h2] at h
  simp only [hfs] at h
  exact key _ _ h
end Go.Vm
