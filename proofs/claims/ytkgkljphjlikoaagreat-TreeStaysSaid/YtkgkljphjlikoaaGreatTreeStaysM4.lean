/- Part 4 of what the proof of TreeStays stands on: LnKeepP, LnLens2P, LnTables, LnLensS, LnLens, LnLens2, LnLens3, LnMerged, LnArr, LnApply, LnApplyR, Xg9, TrPlain, TrSettleP. -/
import Derived.Test.YtkgkljphjlikoaaGreatTreeStaysM3
section
namespace Go.Vm
set_option linter.unusedVariables false
set_option linter.unusedSimpArgs false

theorem length_delF {l : List FieldD} {r : RefD} (h : l.Pairwise fun a b => lessB a.at_ b.at_ = true) (h0 : ∃ f ∈ l, f.at_ = r) : (delF l r).length + 1 = l.length := by
  induction l with
  | nil => obtain ⟨f, hf, _⟩ := h0; cases hf
  | cons a l ih =>
    obtain ⟨h1, h2⟩ := List.pairwise_cons.1 h
    unfold delF at *
    by_cases e : a.at_ = r
    · have hall : l.filter (fun f => !decide (f.at_ = r)) = l := by
        rw [List.filter_eq_self]
        intro g hg
        have := h1 g hg
        simp only [Bool.not_eq_true', decide_eq_false_iff_not]
        intro e2
        rw [e, e2, lessB_irrefl] at this; cases this
      rw [List.filter_cons_of_neg (by simp [e]), hall, List.length_cons]
    · rw [List.filter_cons_of_pos (by simp [e]), List.length_cons, List.length_cons]
      have := ih h2 (by
        obtain ⟨f, hf, e2⟩ := h0
        rcases List.mem_cons.1 hf with rfl | hf
        · exact absurd e2 e
        · exact ⟨f, hf, e2⟩)
      omega
theorem mem_delF {l : List FieldD} {r : RefD} {f : FieldD} : f ∈ delF l r ↔ f ∈ l ∧ f.at_ ≠ r := by
  unfold delF; rw [List.mem_filter]; simp
theorem mem_delAll {rs : List RefD} : ∀ {l : List FieldD} {f : FieldD}, f ∈ delAll l rs ↔ f ∈ l ∧ f.at_ ∉ rs := by
  induction rs with
  | nil => intro l f; simp [delAll]
  | cons r rs ih =>
    intro l f
    have : delAll l (r :: rs) = delAll (delF l r) rs := rfl
    rw [this, ih, mem_delF, List.mem_cons]
    constructor
    · rintro ⟨⟨h1, h2⟩, h3⟩; exact ⟨h1, fun k => k.elim h2 h3⟩
    · rintro ⟨h1, h2⟩; exact ⟨⟨h1, fun k => h2 (.inl k)⟩, fun k => h2 (.inr k)⟩
theorem rightS_delAll {rs : List RefD} : ∀ {l : List FieldD}, rightS l = true → rightS (delAll l rs) = true := by
  induction rs with
  | nil => intro l h; exact h
  | cons r rs ih => intro l h; exact ih (rightS_del h r)
theorem length_delAll {rs : List RefD} : ∀ {l : List FieldD}, rightS l = true → rs.Nodup → (∀ r ∈ rs, 0 ≤ indexS l r) → (delAll l rs).length + rs.length = l.length := by
  induction rs with
  | nil => intro l _ _ _; rfl
  | cons r rs ih =>
    intro l h hnd hall
    obtain ⟨hr, hnd⟩ := List.nodup_cons.1 hnd
    have h1 := length_delF (rightS_iff.1 h).2.2 (index_pos.1 (hall r (List.mem_cons_self ..)))
    have h2 := ih (rightS_del h r) hnd (fun s hs => by
      obtain ⟨f, hf, e⟩ := index_pos.1 (hall s (List.mem_cons_of_mem _ hs))
      refine index_pos.2 ⟨f, mem_delF.2 ⟨hf, ?_⟩, e⟩
      rintro rfl
      exact hr (e ▸ hs))
    have : delAll l (r :: rs) = delAll (delF l r) rs := rfl
    rw [this, List.length_cons]; omega
theorem withS_ok {l : List FieldD} {f : FieldD} (h : (withS l f).2 = 0) : rightS l = true ∧ rightF f = true ∧ indexS l f.at_ < 0 ∧ l.length < 16 ∧ (withS l f).1 = insF l f := by
  unfold withS at *
  split at h
  · simp at h
  rename_i h1
  split at h
  · simp at h
  rename_i h2
  split at h
  · simp at h
  rename_i h3
  rw [if_neg h1, if_neg h2, if_neg h3]
  simp only [Bool.not_eq_false, Bool.and_eq_true] at h1
  exact ⟨h1.1, h1.2, by omega, by omega, rfl⟩
theorem withAll_ok : ∀ {fs l : List FieldD}, rightS l = true → (withAll l fs).2 = 0 → rightS (withAll l fs).1 = true ∧ (withAll l fs).1.length = l.length + fs.length ∧ ∀ g, g ∈ (withAll l fs).1 ↔ g ∈ fs ∨ g ∈ l
  | [], l, h, _ => ⟨h, rfl, fun g => by simp [withAll]⟩
  | f :: fs, l, h, h0 => by
    unfold withAll at *
    split at h0
    · rename_i hw
      rw [if_pos hw]
      obtain ⟨q1, q2, q3, q4, q5⟩ := withS_ok hw
      rw [q5] at h0 ⊢
      have hr := rightS_ins q1 q2 q4 (index_neg.1 q3)
      obtain ⟨k1, k2, k3⟩ := withAll_ok hr h0
      refine ⟨k1, by rw [k2, length_insF, List.length_cons]; omega, fun g => ?_⟩
      rw [k3, mem_insF, List.mem_cons]
      constructor
      · rintro (h | h | h) <;> simp [h]
      · rintro ((h | h) | h) <;> simp [h]
    · simp at h0
theorem news_comes {l : List FieldD} {x : LensD} {fs : List FieldD} (h : newsL l x = some fs) : fs.map (·.at_) = comesL x := by
  unfold newsL at h
  split at h
  · injection h with h; subst h; simp [comesL, *]
  split at h
  · split at h
    · injection h with h; subst h; simp [comesL, *]
    · cases h
  split at h
  · split at h
    · injection h with h; subst h; simp [comesL, *]
    · cases h
  split at h
  · split at h
    · injection h with h; subst h; simp [comesL, *]
    · cases h
  split at h
  · split at h
    · injection h with h; subst h; simp [comesL, *]
    · cases h
  split at h
  · split at h
    · injection h with h; subst h; simp [comesL, *]
    · cases h
  split at h
  · split at h
    · injection h with h; subst h; simp [comesL, *]
    · cases h
  · injection h with h; subst h
    cases hc : comesL x with
    | nil => rfl
    | cons c cs =>
      have : cs = [] := by
        unfold comesL at hc
        repeat (split at hc; · first | (injection hc with _ hc; exact hc.symm) | (simp_all))
        injection hc with _ hc; exact hc.symm
      subst this; rfl
theorem goes_nodup {x : LensD} (h : rightL x = true) : (goesL x).Nodup := by
  unfold goesL
  split
  · simp
  split
  · simp
  split
  · rename_i h2 h3 h9
    unfold rightL at h
    rw [if_neg (by omega), if_neg (show ¬ x.kind = 8 by omega), if_pos (show x.kind = 6 ∨ x.kind = 9 from .inr h9)] at h
    simp only [Bool.and_eq_true, Bool.not_eq_true', decide_eq_false_iff_not] at h
    have hne := h.2.2.1.1.2
    refine List.nodup_cons.2 ⟨?_, by simp⟩
    simp only [List.mem_singleton, named]
    intro e
    injection e with _ _ e
    exact hne e
  · simp
/-- From a right schema a lens that fits leads to a right one, and what it doesn't touch stays. -/
theorem keeps {l m : List FieldD} {x : LensD} (h : applyS l x = (m, 0)) :
    rightS l = true ∧ rightL x = true ∧ rightS m = true ∧ m.length + (goesL x).length = l.length + (comesL x).length ∧ (∀ c ∈ comesL x, 0 ≤ indexS m c) ∧ ∀ r, r ∉ goesL x → r ∉ comesL x → findS l r = findS m r := by
  unfold applyS at h
  split at h
  · simp at h
  rename_i h1
  split at h
  · simp at h
  rename_i h2
  split at h
  · simp at h
  rename_i fs hfs
  simp only [Bool.not_eq_false, Bool.and_eq_true] at h1
  simp only [Bool.not_eq_true, List.any_eq_false, decide_eq_true_eq] at h2
  obtain ⟨hl, hx⟩ := h1
  have hd := rightS_delAll (rs := goesL x) hl
  have hm0 : (withAll (delAll l (goesL x)) fs).2 = 0 := by rw [h]
  obtain ⟨k1, k2, k3⟩ := withAll_ok hd hm0
  rw [h] at k1 k2 k3
  have hlen := length_delAll hl (goes_nodup hx) (fun r hr => by have := h2 r hr; omega)
  have hc := news_comes hfs
  refine ⟨hl, hx, k1, ?_, fun c hcm => ?_, fun r hg hcm => find_same hl k1 fun f e => ?_⟩
  · rw [← hc, List.length_map]; simp only at k2; omega
  · rw [← hc] at hcm
    obtain ⟨f, hf, rfl⟩ := List.mem_map.1 hcm
    exact index_pos.2 ⟨f, (k3 f).2 (.inl hf), rfl⟩
  · rw [k3, mem_delAll]
    constructor
    · intro hf; exact .inr ⟨hf, by rw [e]; exact hg⟩
    · rintro (hf | ⟨hf, _⟩)
      · exfalso
        apply hcm
        rw [← hc, ← e]
        exact List.mem_map.2 ⟨f, hf, rfl⟩
      · exact hf
theorem apply_err {l : List FieldD} {x : LensD} (h : (applyS l x).2 ≠ 0) : (applyS l x).1 = [] := by
  have key : ∀ fs l, (withAll l fs).2 ≠ 0 → (withAll l fs).1 = [] := by
    intro fs
    induction fs with
    | nil => intro l h; exact absurd rfl h
    | cons f fs ih =>
      intro l h
      unfold withAll at h ⊢
      split
      · rename_i hw; rw [if_pos hw] at h; exact ih _ h
      · rfl
  unfold applyS at *
  split
  · rfl
  split
  · rfl
  split
  · rfl
  rename_i h1 h2 _ fs hfs
  rw [if_neg h1, if_neg h2] at h
  simp only [hfs] at h
  exact key _ _ h
end Go.Vm
end
section
namespace Go.Vm
set_option linter.unusedVariables false
set_option linter.unusedSimpArgs false

/-- A lens that isn't long. -/
def okX (x : LensD) : Prop := x.field.cases.length ≤ 1000000 ∧ x.forth.length ≤ 1000 ∧ x.back.length ≤ 1000
def partsL (x : LensD) : LensD × Bool :=
  if x.kind = 1 ∨ x.kind = 5 then (⟨x.kind, x.at_, x.name, noB, 0, noField, [], []⟩, true)
  else if x.kind = 2 ∨ x.kind = 3 then (⟨x.kind, noRef, noB, noB, 0, x.field, [], []⟩, true)
  else if x.kind = 4 then (⟨x.kind, x.at_, noB, noB, 0, noField, [], []⟩, true)
  else if x.kind = 6 ∨ x.kind = 9 then (⟨x.kind, x.at_, x.name, x.other, x.factor, noField, [], []⟩, true)
  else if x.kind = 7 ∨ x.kind = 10 then (⟨x.kind, x.at_, noB, x.other, 0, noField, [], []⟩, true)
  else if x.kind = 8 then (⟨x.kind, x.at_, x.name, x.other, 0, noField, x.forth, x.back⟩, true)
  else (noLens, false)
def rightTb (x : LensD) : Bool := nameB x.name && rightT x.forth x.back && rightT x.back x.forth && decide (caseT x.forth x.name = (x.other, true)) && decide (caseT x.back x.other = (x.name, true))
def rightLp (x : LensD) : Bool :=
  if (partsL x).2 = false then false else if ¬ x = (partsL x).1 then false
  else if x.kind = 2 ∨ x.kind = 3 then rightF x.field
  else if placeB x.at_ = false then false
  else if x.kind = 1 then nameB x.name
  else if x.kind = 4 then !decide (x.at_.group = noB)
  else if x.kind = 5 then decide (x.at_.group = noB) && nameB x.name
  else if x.kind = 6 ∨ x.kind = 9 then nameB x.name && nameB x.other && !decide (x.name = x.other) && decide (2 ≤ x.factor) && decide (x.factor ≤ 1000)
  else if x.kind = 7 ∨ x.kind = 10 then decide (x.other.size ≤ 40)
  else rightTb x
def rightLq (b2 b1 : Bool) (x : LensD) : Bool :=
  if b2 = false then false else if b1 = false then false
  else if x.kind = 2 ∨ x.kind = 3 then rightF x.field
  else if placeB x.at_ = false then false
  else if x.kind = 1 then nameB x.name
  else if x.kind = 4 then !decide (x.at_.group = noB)
  else if x.kind = 5 then decide (x.at_.group = noB) && nameB x.name
  else if x.kind = 6 ∨ x.kind = 9 then nameB x.name && nameB x.other && !decide (x.name = x.other) && decide (2 ≤ x.factor) && decide (x.factor ≤ 1000)
  else if x.kind = 7 ∨ x.kind = 10 then decide (x.other.size ≤ 40)
  else rightTb x
theorem rightLp_q (x : LensD) : rightLp x = rightLq (partsL x).2 (decide (x = (partsL x).1)) x := by
  unfold rightLp rightLq
  by_cases h : x = (partsL x).1
  · rw [if_neg (not_not_intro h), decide_eq_true h, if_neg (show ¬ (true = false) by simp)]
  · rw [if_pos h, decide_eq_false h, if_pos (show false = false from rfl)]
theorem rightTb_eq (x : LensD) : rightTb x = (rightT x.forth x.back && rightT x.back x.forth && decide (caseT x.forth x.name = (x.other, true)) && decide (caseT x.back x.other = (x.name, true))) := by
  unfold rightTb
  by_cases h : rightT x.forth x.back = true
  · by_cases h2 : caseT x.forth x.name = (x.other, true)
    · rw [rightT_name h (by rw [h2])]; rfl
    · simp [h2]
  · simp [h]
theorem rightLp_eq (x : LensD) : rightLp x = rightL x := by
  have hp := rightTb_eq x
  obtain ⟨k, ⟨s, g, n⟩, nm, ot, fa, f, fo, ba⟩ := x
  unfold rightLp rightL partsL
  simp only at *
  rw [hp]
  by_cases h2 : k = 2
  · subst h2; simp [noRef]; by_cases hh : rightF f = true <;> simp [hh] <;> grind
  by_cases h3 : k = 3
  · subst h3; simp [noRef]; by_cases hh : rightF f = true <;> simp [hh] <;> grind
  by_cases h1 : k = 1
  · subst h1; simp [noRef]; grind
  by_cases h4 : k = 4
  · subst h4; simp [noRef]; grind
  by_cases h5 : k = 5
  · subst h5; simp [noRef]; grind
  by_cases h6 : k = 6
  · subst h6; simp [noRef]; grind
  by_cases h9 : k = 9
  · subst h9; simp [noRef]; grind
  by_cases h7 : k = 7
  · subst h7; simp [noRef]; grind
  by_cases h10 : k = 10
  · subst h10; simp [noRef]; grind
  by_cases h8 : k = 8
  · subst h8; simp [noRef]; grind
  · simp [h1, h2, h3, h4, h5, h6, h7, h8, h9, h10]

/-! ### Where a lens leads, as the program goes -/
def comeL (x : LensD) : RefD := match comesL x with
  | [] => noRef
  | c :: _ => c
def mergedS (l : List FieldD) (x : LensD) : List FieldD × Bool :=
  if ¬ (findS l (named x.at_ x.name)).2 = 0 ∨ ¬ (findS l (named x.at_ x.name)).1.kind = 1 then ([], false)
  else if ¬ (findS l (named x.at_ x.other)).2 = 0 ∨ ¬ (findS l (named x.at_ x.other)).1.kind = 1 ∨ ¬ (findS l (named x.at_ x.other)).1.worth = (findS l (named x.at_ x.name)).1.worth * x.factor then ([], false)
  else ([⟨x.at_, 1, noB, [], (findS l (named x.at_ x.name)).1.worth⟩], true)
def arrS (l : List FieldD) (x : LensD) : List FieldD × Bool :=
  if x.kind = 2 then ([x.field], true)
  else if x.kind = 3 then ([], decide ((findS l x.field.at_).2 = 0) && decide ((findS l x.field.at_).1 = x.field))
  else if x.kind = 9 then mergedS l x
  else if ¬ (findS l x.at_).2 = 0 then ([], false)
  else if x.kind = 6 then ([⟨named x.at_ x.name, 1, noB, [], (findS l x.at_).1.worth⟩, ⟨named x.at_ x.other, 1, noB, [], (findS l x.at_).1.worth * x.factor⟩], decide ((findS l x.at_).1.kind = 1))
  else if x.kind = 7 then ([⟨x.at_, 4, noB, [], 0⟩], decide ((findS l x.at_).1.kind = 2) && decide ((findS l x.at_).1.deft = x.other))
  else if x.kind = 10 then ([⟨x.at_, 2, x.other, [], 0⟩], decide ((findS l x.at_).1.kind = 4))
  else if x.kind = 8 then ([⟨x.at_, 3, x.other, froms x.back, 0⟩], decide ((findS l x.at_).1 = ⟨x.at_, 3, x.name, froms x.forth, 0⟩))
  else ([⟨comeL x, (findS l x.at_).1.kind, (findS l x.at_).1.deft, (findS l x.at_).1.cases, (findS l x.at_).1.worth⟩], true)
def delLoop : List FieldD → List RefD → List FieldD × Int
  | l, [] => (l, 0)
  | l, r :: rs => if (withoutS l r).2 = 0 then delLoop (withoutS l r).1 rs else ([], 16)
def applyP (l : List FieldD) (x : LensD) : List FieldD × Int :=
  if (rightS l && rightL x) = false then ([], 5)
  else if (arrS l x).2 = false then ([], 16)
  else if ¬ (delLoop l (goesL x)).2 = 0 then ([], 16)
  else withAll (delLoop l (goesL x)).1 (arrS l x).1
theorem without_ok {l : List FieldD} {r : RefD} (h : rightS l = true) (h0 : ¬ indexS l r < 0) : withoutS l r = (delF l r, 0) := by
  unfold withoutS; rw [h, if_neg (by simp), if_neg h0]
theorem delLoop_ok {rs : List RefD} : ∀ {l : List FieldD}, rightS l = true → rs.Nodup → (∀ r ∈ rs, ¬ indexS l r < 0) → delLoop l rs = (delAll l rs, 0) := by
  induction rs with
  | nil => intro l _ _ _; rfl
  | cons r rs ih =>
    intro l h hnd hall
    obtain ⟨hr, hnd⟩ := List.nodup_cons.1 hnd
    have e := without_ok h (hall r (List.mem_cons_self ..))
    unfold delLoop
    rw [e, if_pos rfl]
    refine ih (rightS_del h r) hnd (fun s hs => ?_)
    have h1 := hall s (List.mem_cons_of_mem _ hs)
    have h2 : 0 ≤ indexS l s := by omega
    obtain ⟨f, hf, e2⟩ := index_pos.1 h2
    have : 0 ≤ indexS (delF l r) s := index_pos.2 ⟨f, mem_delF.2 ⟨hf, by rw [e2]; rintro rfl; exact hr hs⟩, e2⟩
    show ¬ indexS (delF l r) s < 0
    omega
theorem find_neg {l : List FieldD} {r : RefD} (h : indexS l r < 0) : findS l r = (noField, 6) := by unfold findS; rw [if_pos h]
theorem find_pos {l : List FieldD} {r : RefD} (h : ¬ indexS l r < 0) : findS l r = (fieldAt l r, 0) := by unfold findS; rw [if_neg h]
theorem find_nn {l : List FieldD} {r : RefD} (h : 0 ≤ indexS l r) : findS l r = (fieldAt l r, 0) := find_pos (by omega)
theorem arr_missing {l : List FieldD} {x : LensD} (h : (goesL x).any (fun g => decide (indexS l g < 0)) = true) : (arrS l x).2 = false := by
  unfold goesL at h
  unfold arrS mergedS
  by_cases h2 : x.kind = 2
  · simp [h2] at h
  by_cases h3 : x.kind = 3
  · simp [h3] at h; simp [h3, find_neg h]
  by_cases h9 : x.kind = 9
  · simp [h9] at h
    simp only [h2, h3, h9, if_true, if_false]
    rcases h with h | h
    · simp [find_neg h]
    · by_cases h' : indexS l (named x.at_ x.name) < 0
      · simp [find_neg h']
      · by_cases hk : (fieldAt l (named x.at_ x.name)).kind = 1 <;> simp [find_neg h, find_pos h', hk]
  · simp [h2, h3, h9] at h; simp [h2, h3, h9, find_neg h]
theorem arr_news {l : List FieldD} {x : LensD} (h : ∀ g ∈ goesL x, ¬ indexS l g < 0) : match newsL l x with
    | none => (arrS l x).2 = false
    | some fs => arrS l x = (fs, true) := by
  unfold goesL at h
  unfold newsL arrS mergedS comeL
  by_cases h2 : x.kind = 2
  · simp [h2]
  by_cases h3 : x.kind = 3
  · simp [h3] at h; simp only [h2, h3, if_true, if_false, find_nn h]; by_cases e : fieldAt l x.field.at_ = x.field <;> simp [e]
  by_cases h9 : x.kind = 9
  · simp [h9] at h
    simp only [h2, h3, h9, if_true, if_false, find_nn h.1, find_nn h.2]
    by_cases e1 : (fieldAt l (named x.at_ x.name)).kind = 1 <;> by_cases e2 : (fieldAt l (named x.at_ x.other)).kind = 1 <;> by_cases e3 : (fieldAt l (named x.at_ x.other)).worth = (fieldAt l (named x.at_ x.name)).worth * x.factor <;> simp [e1, e2, e3]
  simp [h2, h3, h9] at h
  simp only [h2, h3, h9, if_false, find_nn h]
  by_cases h6 : x.kind = 6
  · by_cases e : (fieldAt l x.at_).kind = 1 <;> simp [h6, e]
  by_cases h7 : x.kind = 7
  · by_cases e : (fieldAt l x.at_).kind = 2 <;> by_cases e2 : (fieldAt l x.at_).deft = x.other <;> simp [h7, e, e2]
  by_cases h10 : x.kind = 10
  · by_cases e : (fieldAt l x.at_).kind = 4 <;> simp [h10, e]
  by_cases h8 : x.kind = 8
  · by_cases e : fieldAt l x.at_ = ⟨x.at_, 3, x.name, froms x.forth, 0⟩ <;> simp [h8, e]
  · simp only [h6, h7, h10, h8, if_false]
    have : comesL x ≠ [] := by unfold comesL; simp only [h2, h3, h6, if_false]; (repeat' split) <;> simp
    cases hc : comesL x with
    | nil => exact absurd hc this
    | cons c cs => simp
theorem applyP_eq (l : List FieldD) (x : LensD) : applyP l x = applyS l x := by
  unfold applyP applyS
  by_cases h : (rightS l && rightL x) = false
  · rw [if_pos h, if_pos h]
  rw [if_neg h, if_neg h]
  obtain ⟨hl, hx⟩ : rightS l = true ∧ rightL x = true := by simpa using h
  by_cases hg : (goesL x).any (fun g => decide (indexS l g < 0)) = true
  · rw [if_pos hg, if_pos (arr_missing hg)]
  · rw [if_neg hg]
    have hall : ∀ g ∈ goesL x, ¬ indexS l g < 0 := by simpa using hg
    rw [delLoop_ok hl (goes_nodup hx) hall]
    have h4 := arr_news hall
    cases hn : newsL l x with
    | none => rw [hn] at h4; rw [if_pos h4]
    | some fs => rw [hn] at h4; simp only at h4; rw [h4]; simp

/-! ### Where a lens leads, as the reference goes -/
def putS (l : List FieldD) (f : FieldD) (ok : Bool) : List FieldD × Bool := ((withS l f).1, ok && decide ((withS l f).2 = 0))
def refA (rest : List FieldD) (w v : FieldD) (x : LensD) : List FieldD × Bool :=
  if x.kind = 2 then putS rest x.field true
  else if x.kind = 3 then (rest, decide (w = x.field))
  else if x.kind = 6 then putS (putS rest ⟨named x.at_ x.name, 1, noB, [], w.worth⟩ (decide (w.kind = 1) && decide (w.worth * x.factor < 1048577))).1 ⟨named x.at_ x.other, 1, noB, [], w.worth * x.factor⟩ (putS rest ⟨named x.at_ x.name, 1, noB, [], w.worth⟩ (decide (w.kind = 1) && decide (w.worth * x.factor < 1048577))).2
  else if x.kind = 7 then putS rest ⟨x.at_, 4, noB, [], 0⟩ (decide (w.kind = 2) && decide (w.deft = x.other))
  else if x.kind = 8 then putS rest ⟨x.at_, 3, x.other, froms x.back, 0⟩ (decide (w.kind = 3) && decide (w.deft = x.name) && decide (w.cases = froms x.forth))
  else if x.kind = 9 then putS rest ⟨x.at_, 1, noB, [], w.worth⟩ (decide (w.kind = 1) && decide (v.kind = 1) && decide (v.worth = w.worth * x.factor))
  else if x.kind = 10 then putS rest ⟨x.at_, 2, x.other, [], 0⟩ (decide (w.kind = 4))
  else putS rest ⟨comeL x, w.kind, w.deft, w.cases, w.worth⟩ true
/-- The fields that go. -/
def wasL (l : List FieldD) (x : LensD) : List FieldD := (goesL x).map (fieldAt l)
def at0 (l : List FieldD) : FieldD := l.headD noField
def at1 (l : List FieldD) : FieldD := l.tail.headD noField
def applyR (l : List FieldD) (x : LensD) : List FieldD × Int :=
  if (rightS l && rightL x) = false then ([], 5)
  else if (goesL x).any (fun g => decide (indexS l g < 0)) then ([], 16)
  else if (refA (delAll l (goesL x)) (at0 (wasL l x)) (at1 (wasL l x)) x).2 = false then ([], 16)
  else ((refA (delAll l (goesL x)) (at0 (wasL l x)) (at1 (wasL l x)) x).1, 0)
theorem withAll_one {l : List FieldD} {f : FieldD} : withAll l [f] = if (withS l f).2 = 0 then ((withS l f).1, 0) else ([], 16) := by
  unfold withAll withAll; rfl
theorem put_one {l : List FieldD} {f : FieldD} {ok : Bool} : (if (putS l f ok).2 = false then (([] : List FieldD), (16 : Int)) else ((putS l f ok).1, 0)) = if ok = true then withAll l [f] else ([], 16) := by
  rw [withAll_one]
  unfold putS
  by_cases h : (withS l f).2 = 0 <;> cases ok <;> simp [h]
theorem with_big {l : List FieldD} {f : FieldD} (h : rightF f = false) : ¬ (withS l f).2 = 0 := by unfold withS; rw [h, Bool.and_false, if_pos rfl]; simp
theorem rightF_worth {f : FieldD} (h : rightF f = true) : 0 ≤ f.worth ∧ f.worth ≤ 1048576 := by
  unfold rightF at h
  simp only [Bool.and_eq_true] at h
  have h := h.2
  split at h
  · simp only [Bool.and_eq_true, decide_eq_true_eq] at h; omega
  split at h
  · simp only [Bool.and_eq_true, decide_eq_true_eq] at h; omega
  split at h
  · simp only [Bool.and_eq_true, decide_eq_true_eq] at h; omega
  split at h
  · simp only [Bool.and_eq_true, decide_eq_true_eq] at h; omega
  · cases h
theorem rightF_enum {f : FieldD} (h : rightF f = true) (hk : f.kind = 3) : f.worth = 0 := by
  unfold rightF at h
  rw [hk] at h
  simp only [Bool.and_eq_true, decide_eq_true_eq] at h
  simp at h
  exact h.2.2
theorem worth_big {r : RefD} {n : Int} (h : ¬ n < 1048577) : rightF ⟨r, 1, noB, [], n⟩ = false := by
  cases hc : rightF ⟨r, 1, noB, [], n⟩ with
  | false => rfl
  | true => have := rightF_worth hc; simp only at this; omega
theorem rightS_mem {l : List FieldD} {f : FieldD} (h : rightS l = true) (hf : f ∈ l) : rightF f = true := (rightS_iff.1 h).2.1 f hf
theorem applyR_eq (l : List FieldD) (x : LensD) : applyR l x = applyS l x := by
  unfold applyR applyS
  by_cases h : (rightS l && rightL x) = false
  · rw [if_pos h, if_pos h]
  rw [if_neg h, if_neg h]
  obtain ⟨hl, hx⟩ : rightS l = true ∧ rightL x = true := by simpa using h
  by_cases hg : (goesL x).any (fun g => decide (indexS l g < 0)) = true
  · rw [if_pos hg, if_pos hg]
  rw [if_neg hg, if_neg hg]
  have hall : ∀ g ∈ goesL x, ¬ indexS l g < 0 := by simpa using hg
  generalize hR : delAll l (goesL x) = R
  unfold refA newsL wasL
  by_cases h2 : x.kind = 2
  · simp only [h2, if_true]; rw [put_one]; simp
  simp only [h2, if_false]
  by_cases h3 : x.kind = 3
  · simp only [h3, if_true, goesL, List.map_cons, List.map_nil, at0, List.headD_cons]
    by_cases e : fieldAt l x.field.at_ = x.field <;> simp [e, withAll]
  simp only [h3, if_false]
  by_cases h9 : x.kind = 9
  · simp only [h9, if_true, show ¬ (9 : Int) = 6 by omega, show ¬ (9 : Int) = 7 by omega, show ¬ (9 : Int) = 8 by omega, show ¬ (9 : Int) = 2 by omega, show ¬ (9 : Int) = 3 by omega, if_false, goesL, List.map_cons, List.map_nil, at0, at1, List.headD_cons, List.tail_cons]
    rw [put_one]
    by_cases e1 : (fieldAt l (named x.at_ x.name)).kind = 1 <;> by_cases e2 : (fieldAt l (named x.at_ x.other)).kind = 1 <;> by_cases e3 : (fieldAt l (named x.at_ x.other)).worth = (fieldAt l (named x.at_ x.name)).worth * x.factor <;> simp [e1, e2, e3]
  simp only [h9, if_false, goesL, h2, h3, List.map_cons, List.map_nil, at0, List.headD_cons]
  have hat := hall x.at_ (by simp [goesL, h2, h3, h9])
  obtain ⟨hm, he⟩ := fieldAt_spec hat
  have hrf := rightS_mem hl hm
  by_cases h6 : x.kind = 6
  · simp only [h6, if_true]
    by_cases e : (fieldAt l x.at_).kind = 1
    · by_cases e2 : (fieldAt l x.at_).worth * x.factor < 1048577
      · simp only [e, e2, decide_true, Bool.and_true, if_true]
        unfold withAll
        rw [withAll_one]
        unfold putS
        by_cases q : (withS R ⟨named x.at_ x.name, 1, noB, [], (fieldAt l x.at_).worth⟩).2 = 0
        · by_cases q2 : (withS (withS R ⟨named x.at_ x.name, 1, noB, [], (fieldAt l x.at_).worth⟩).1 ⟨named x.at_ x.other, 1, noB, [], (fieldAt l x.at_).worth * x.factor⟩).2 = 0 <;> simp [q, q2]
        · simp [q]
      · simp only [e, e2, decide_true, decide_false, Bool.and_false, if_true]
        unfold withAll
        rw [withAll_one]
        unfold putS
        have q2 := with_big (l := (withS R ⟨named x.at_ x.name, 1, noB, [], (fieldAt l x.at_).worth⟩).1) (worth_big (r := named x.at_ x.other) e2)
        simp [q2]
    · simp only [e, decide_false, Bool.false_and, if_false]
      unfold putS; simp
  simp only [h6, if_false]
  by_cases h7 : x.kind = 7
  · simp only [h7, if_true]; rw [put_one]
    by_cases e : (fieldAt l x.at_).kind = 2 <;> by_cases e2 : (fieldAt l x.at_).deft = x.other <;> simp [e, e2]
  simp only [h7, if_false]
  by_cases h8 : x.kind = 8
  · simp only [h8, if_true, show ¬ (8 : Int) = 10 by omega, if_false]; rw [put_one]
    have key : (fieldAt l x.at_ = ⟨x.at_, 3, x.name, froms x.forth, 0⟩) ↔ ((decide ((fieldAt l x.at_).kind = 3) && decide ((fieldAt l x.at_).deft = x.name) && decide ((fieldAt l x.at_).cases = froms x.forth)) = true) := by
      constructor
      · intro k; rw [k]; simp
      · intro k
        simp only [Bool.and_eq_true, decide_eq_true_eq] at k
        have hw := rightF_enum hrf k.1.1
        generalize fieldAt l x.at_ = F at he k hw ⊢
        obtain ⟨a, b, c, d, e⟩ := F
        simp only at he k hw
        rw [he, k.1.1, k.1.2, k.2, hw]
    by_cases e : fieldAt l x.at_ = ⟨x.at_, 3, x.name, froms x.forth, 0⟩
    · rw [if_pos (key.1 e), if_pos e]
    · rw [if_neg (fun k => e (key.2 k)), if_neg e]
  simp only [h8, if_false]
  by_cases h10 : x.kind = 10
  · simp only [h10, if_true]; rw [put_one]
    by_cases e : (fieldAt l x.at_).kind = 4 <;> simp [e]
  · simp only [h10, if_false]; rw [put_one, if_pos rfl]
    have : comesL x ≠ [] := by unfold comesL; simp only [h2, h3, h6, if_false]; (repeat' split) <;> simp
    unfold comeL
    cases hc : comesL x with
    | nil => exact absurd hc this
    | cons c cs => rfl
end Go.Vm
end
section
namespace Go.Vm
open Go.RowKit Go.Proofs
set_option linter.unusedVariables false
set_option linter.unusedSimpArgs false
set_option maxRecDepth 10000

theorem pairs_wide {l : List (ByteArray × ByteArray)} : ∀ x ∈ l.map pairD, x.cells.length = 2 := by
  intro x hx; obtain ⟨y, _, rfl⟩ := List.mem_map.1 hx; rfl
theorem rs_wide {l : List RefD} : ∀ x ∈ l.map rD, x.cells.length = 3 := by
  intro x hx; obtain ⟨y, _, rfl⟩ := List.mem_map.1 hx; rfl
theorem find_none {l : List (ByteArray × ByteArray)} {s : ByteArray} {k : Nat} {p : ByteArray × ByteArray} (hp : l[k]? = some p) (h : (l.take k).find? (fun p => decide (p.1 = s)) = none) (hn : ¬ p.1 = s) : (l.take (k + 1)).find? (fun p => decide (p.1 = s)) = none := by
  rw [List.take_add_one, hp, List.find?_append, h]; simp [hn]
theorem case_hit {l : List (ByteArray × ByteArray)} {s : ByteArray} {k : Nat} {p : ByteArray × ByteArray} (hp : l[k]? = some p) (h : (l.take k).find? (fun p => decide (p.1 = s)) = none) (hn : p.1 = s) : caseT l s = (p.2, true) := by
  obtain ⟨hlt, hpe⟩ := List.getElem?_eq_some_iff.1 hp
  have e : l = l.take k ++ p :: l.drop (k + 1) := by rw [← hpe, ← List.drop_eq_getElem_cons hlt, List.take_append_drop]
  unfold caseT
  rw [e, List.find?_append, h]; simp [hn]
theorem case_miss {l : List (ByteArray × ByteArray)} {s : ByteArray} {k : Nat} (hk : l.length ≤ k) (h : (l.take k).find? (fun p => decide (p.1 = s)) = none) : caseT l s = (noB, false) := by
  rw [List.take_of_length_le hk] at h
  unfold caseT; rw [h]
theorem froms_next {l : List (ByteArray × ByteArray)} {k : Nat} {p : ByteArray × ByteArray} (hp : l[k]? = some p) : froms (l.take (k + 1)) = froms (l.take k) ++ [p.1] := by
  unfold froms; rw [take_next hp]; simp
theorem froms_len {l : List (ByteArray × ByteArray)} {k n : Nat} (h : l.length ≤ n) : (froms (l.take k)).length ≤ n := by unfold froms; rw [List.length_map]; exact length_take_le h
theorem take_length {α : Type} {l : List α} {k : Nat} (h : k < l.length) : (l.take k).length = k := by rw [List.length_take]; omega
def heavyP (l : List (ByteArray × ByteArray)) : Bool := decide (20 < l.length) || l.any (fun p => decide (200 < p.1.size) || decide (200 < p.2.size))
theorem heavyP_ok {l : List (ByteArray × ByteArray)} (h : heavyP l = false) : l.length ≤ 20 := by unfold heavyP at h; simp only [Bool.or_eq_false_iff, decide_eq_false_iff_not] at h; omega
def heavyL (x : LensD) : Bool := decide (200 < x.at_.group.size) || decide (200 < x.at_.name.size) || decide (200 < x.name.size) || decide (200 < x.other.size) || heavyF x.field || heavyP x.forth || heavyP x.back
theorem heavyL_ok {x : LensD} (h : heavyL x = false) : okX x := by
  unfold heavyL at h; simp only [Bool.or_eq_false_iff] at h
  have h1 := heavyF_ok h.1.1.2
  have h2 := heavyP_ok h.1.2
  have h3 := heavyP_ok h.2
  exact ⟨by omega, by omega, by omega⟩

theorem froms_no {l : List (ByteArray × ByteArray)} {s : ByteArray} {j : Nat} {q : ByteArray × ByteArray} (hq : l[j]? = some q) (h : s ∉ froms (l.take j)) (hn : ¬ q.1 = s) : s ∉ froms (l.take (j + 1)) := by
  rw [froms_next hq, List.mem_append, List.mem_singleton]
  rintro (k | k)
  · exact h k
  · exact hn k.symm
theorem froms_mem {l : List (ByteArray × ByteArray)} {s : ByteArray} {j : Nat} {q : ByteArray × ByteArray} (hq : l[j]? = some q) (h : q.1 = s) : s ∈ froms l := by
  rw [← h]; exact List.mem_map.2 ⟨q, List.mem_of_getElem? hq, rfl⟩

set_option maxHeartbeats 1000000 in
theorem case_any (l : (List (ByteArray × ByteArray))) (s : ByteArray) (hl : l.length ≤ 1000) : Contract Tryz.prog 131 [.row (l.map pairD), .sc (.string s)] [.d (.sc (.string (caseT l s).1)), .d (.sc (.bool (caseT l s).2))] := by
 refine T.fn [] Tryz.func131 ?_
 refine x_len ?_
 refine xloopR (fb := []) T.ok (Nat.le_of_ble_eq_true rfl) [1, 8, 9] (fun (k : Nat) => [(10, .c (.d (.sc (.int .i64 (k : Nat)))))]) (fun k => k ≤ l.length ∧ (l.take k).find? (fun p => decide (p.1 = s)) = none) (fun k => l.length - k) 0 ⟨Nat.zero_le _, rfl⟩ (x_ent (by first | rfl | (simp only [Tr.get]; simp; done)) trivial) ?_
 rintro k ⟨hk, hi⟩
 refine br (fun hc1 => ?y1) (fun hc1 => ?n1)
 case' y1 =>
  obtain ⟨p, hp⟩ := elem_at hc1
  have hkl := lt_len hp
  first | refine x_ix (by exact mapAt hp) ?_ | refine x_ixI (by exact mapAt hp) ?_
  refine br (fun hc2 => ?y2) (fun hc2 => ?n2)
  case' n2 =>
   first | refine x_inc ?_ | refine x_add ?_ | refine x_bin rfl rfl ?_
   refine x_rnd (k + 1) ⟨lt_len hp, find_none hp hi (by assumption)⟩ (by (try dsimp only); have := lt_len hp; omega) rfl (x_ent (by first | rfl | (simp only [Tr.get]; simp; done)) trivial) rfl
 all_goals (refine x_ret ?_; simp only [fitsL, fits, C.asD, and_true] <;> (first | (rw [case_hit hp hi (by assumption)]; exact ⟨rfl, rfl⟩) | (rw [case_miss (past_end (by assumption)) hi]; exact ⟨rfl, rfl⟩)))

set_option maxHeartbeats 1000000 in
theorem refCase_any (l : (List (ByteArray × ByteArray))) (s : ByteArray) (hl : l.length ≤ 1000) : Contract Tryz.prog 89 [.row (l.map pairD), .sc (.string s)] [.d (.sc (.string (caseT l s).1)), .d (.sc (.bool (caseT l s).2))] := by
 refine T.fn [] Tryz.func89 ?_
 refine xloopR (fb := []) T.ok (Nat.le_of_ble_eq_true rfl) [0, 1] (fun (k : Nat) => [(6, .c (.d (.sc (.int .i64 (k : Nat)))))]) (fun k => k ≤ l.length ∧ (l.take k).find? (fun p => decide (p.1 = s)) = none) (fun k => l.length - k) 0 ⟨Nat.zero_le _, rfl⟩ (x_ent (by first | rfl | (simp only [Tr.get]; simp; done)) trivial) ?_
 rintro k ⟨hk, hi⟩
 refine x_len ?_
 refine br (fun hc1 => ?y1) (fun hc1 => ?n1)
 case' y1 =>
  obtain ⟨p, hp⟩ := elem_at hc1
  have hkl := lt_len hp
  first | refine x_ix (by exact mapAt hp) ?_ | refine x_ixI (by exact mapAt hp) ?_
  refine br (fun hc2 => ?y2) (fun hc2 => ?n2)
  case' y2 =>
   first | refine x_ix (by exact mapAt hp) ?_ | refine x_ixI (by exact mapAt hp) ?_
  case' n2 =>
   first | refine x_inc ?_ | refine x_add ?_ | refine x_bin rfl rfl ?_
   refine x_rnd (k + 1) ⟨lt_len hp, find_none hp hi (by assumption)⟩ (by (try dsimp only); have := lt_len hp; omega) rfl (x_ent (by first | rfl | (simp only [Tr.get]; simp; done)) trivial) rfl
 all_goals (refine x_ret ?_; simp only [fitsL, fits, C.asD, and_true] <;> (first | (rw [case_hit hp hi (by assumption)]; exact ⟨rfl, rfl⟩) | (rw [case_miss (past_end (by assumption)) hi]; exact ⟨rfl, rfl⟩)))

set_option maxHeartbeats 1000000 in
theorem samePairs_any (l m : (List (ByteArray × ByteArray))) (hl : l.length ≤ 1000) : Contract Tryz.prog 93 [.row (l.map pairD), .row (m.map pairD)] [.d (.sc (.bool (decide (l = m))))] := by
 refine T.fn [] Tryz.func93 ?_
 refine x_len ?_
 refine x_len ?_
 refine br (fun hc1 => ?y1) (fun hc1 => ?n1)
 case' n1 =>
  have hlen : l.length = m.length := by omega
  refine x_len ?_
  refine xloopR (fb := []) T.ok (Nat.le_of_ble_eq_true rfl) [0, 1, 12] (fun (k : Nat) => [(13, .c (.d (.sc (.int .i64 (k : Nat)))))]) (fun k => k ≤ l.length ∧ l.take k = m.take k) (fun k => l.length - k) 0 ⟨Nat.zero_le _, rfl⟩ (x_ent (by first | rfl | (simp only [Tr.get]; simp; done)) trivial) ?_
  rintro k ⟨hk, hi⟩
  refine br (fun hc2 => ?y2) (fun hc2 => ?n2)
  case' y2 =>
   obtain ⟨p, hp⟩ := elem_at hc2
   have hkl := lt_len hp
   obtain ⟨q, hq⟩ := elem_too hp hlen
   refine And.intro ⟨T.mixed, by decide +kernel⟩ ?_
   first | refine x_ix (by first | exact mapAt hp | exact mapAt hq) ?_ | refine x_ixI (by first | exact mapAt hp | exact mapAt hq) ?_
   first | refine x_ix (by first | exact mapAt hp | exact mapAt hq) ?_ | refine x_ixI (by first | exact mapAt hp | exact mapAt hq) ?_
   refine xeq_119n _ _ ?_
   refine br (fun hc3 => ?y3) (fun hc3 => ?n3)
   case' n3 =>
    first | refine x_inc ?_ | refine x_add ?_ | refine x_bin rfl rfl ?_
    refine x_rnd (k + 1) ⟨lt_len hp, take_eq_next hp hq hi (by simp_all)⟩ (by (try dsimp only); have := lt_len hp; omega) rfl (x_ent (by first | rfl | (simp only [Tr.get]; simp; done)) trivial) rfl
 all_goals (refine x_ret ?_; simp only [fitsL, fits, C.asD, and_true] <;> (refine scb ?_; first | exact (decide_eq_false (fun e => by simp_all)).symm | exact (decide_eq_false (ne_at hp hq (fun e => by simp_all))).symm | exact (decide_eq_true (take_eq_end hlen (past_end (by assumption)) hi)).symm))

set_option maxHeartbeats 1000000 in
theorem refSamePairs_any (l m : (List (ByteArray × ByteArray))) (hl : l.length ≤ 1000) : Contract Tryz.prog 104 [.row (l.map pairD), .row (m.map pairD)] [.d (.sc (.bool (decide (l = m))))] := by
 refine T.fn [] Tryz.func104 ?_
 refine x_len ?_
 refine x_len ?_
 refine br (fun hc1 => ?y1) (fun hc1 => ?n1)
 case' n1 =>
  have hlen : l.length = m.length := by omega
  refine xloopR (fb := []) T.ok (Nat.le_of_ble_eq_true rfl) [0, 1] (fun (k : Nat) => [(5, .c (.d (.sc (.int .i64 (k : Nat)))))]) (fun k => k ≤ l.length ∧ l.take k = m.take k) (fun k => l.length - k) 0 ⟨Nat.zero_le _, rfl⟩ (x_ent (by first | rfl | (simp only [Tr.get]; simp; done)) trivial) ?_
  rintro k ⟨hk, hi⟩
  refine x_len ?_
  refine br (fun hc2 => ?y2) (fun hc2 => ?n2)
  case' y2 =>
   obtain ⟨p, hp⟩ := elem_at hc2
   have hkl := lt_len hp
   obtain ⟨q, hq⟩ := elem_too hp hlen
   refine And.intro ⟨T.mixed, by decide +kernel⟩ ?_
   first | refine x_ix (by first | exact mapAt hp | exact mapAt hq) ?_ | refine x_ixI (by first | exact mapAt hp | exact mapAt hq) ?_
   first | refine x_ix (by first | exact mapAt hp | exact mapAt hq) ?_ | refine x_ixI (by first | exact mapAt hp | exact mapAt hq) ?_
   refine xeq_119n _ _ ?_
   refine br (fun hc3 => ?y3) (fun hc3 => ?n3)
   case' n3 =>
    first | refine x_inc ?_ | refine x_add ?_ | refine x_bin rfl rfl ?_
    refine x_rnd (k + 1) ⟨lt_len hp, take_eq_next hp hq hi (by simp_all)⟩ (by (try dsimp only); have := lt_len hp; omega) rfl (x_ent (by first | rfl | (simp only [Tr.get]; simp; done)) trivial) rfl
 all_goals (refine x_ret ?_; simp only [fitsL, fits, C.asD, and_true] <;> (refine scb ?_; first | exact (decide_eq_false (fun e => by simp_all)).symm | exact (decide_eq_false (ne_at hp hq (fun e => by simp_all))).symm | exact (decide_eq_true (take_eq_end hlen (past_end (by assumption)) hi)).symm))

set_option maxHeartbeats 1000000 in
theorem froms_any (l : (List (ByteArray × ByteArray))) (hl : l.length ≤ 1000) : Contract Tryz.prog 166 [.row (l.map pairD)] [.d (.row ((froms l).map strD))] := by
 refine T.fn [] Tryz.func166 ?_
 refine x_len ?_
 refine x_make ?_
 refine x_len ?_
 refine xloopR (fb := []) T.ok (Nat.le_of_ble_eq_true rfl) [9, 10] (fun (s : Nat × Nat × List ByteArray) => [(11, .c (.d (.sc (.int .i64 ((s.1 : Nat) : Int))))), (3, .c (.own 8 9 (s.2.2.map strD)))]) (fun s => s.1 ≤ l.length ∧ s.2.2 = froms (l.take s.1)) (fun s => l.length - s.1) (0, 8, []) ⟨Nat.zero_le _, rfl⟩ (x_ent (by first | rfl | (simp only [Tr.get]; simp; done)) (x_ent (by first | rfl | (simp only [Tr.get]; simp; done)) trivial)) ?_
 rintro s ⟨hk, hA⟩
 have hAl : s.2.2.length ≤ 1000 := by rw [hA]; exact froms_len hl
 refine br (fun hc1 => ?y1) (fun hc1 => ?n1)
 case' y1 =>
  obtain ⟨p, hp⟩ := elem_at hc1
  have hkl := lt_len hp
  first | refine x_ix (by exact mapAt hp) ?_ | refine x_ixI (by exact mapAt hp) ?_
  first | refine x_app ?_ (by first | exact strs_wide | exact pairs_wide | exact rs_wide | exact fD_wide | (simp [D.cells])) (hz := by first | exact snoc_map (g := strD) | exact one_map (g := strD) | rfl) | refine x_appN ?_ (by first | exact strs_wide | exact pairs_wide | exact rs_wide | exact fD_wide | (simp [D.cells]))
  first | refine x_bin (pr_add1 (by omega)) rfl ?_ | refine x_inc ?_ | refine x_add ?_ | refine x_bin rfl rfl ?_
  refine x_rnd (s.1 + 1, 0, s.2.2 ++ [p.1]) ⟨lt_len hp, by rw [hA]; exact (froms_next hp).symm⟩ (by (try dsimp only); have := lt_len hp; (try dsimp only); omega) rfl (x_ent (by first | rfl | (simp only [Tr.get]; simp; done)) (x_ent (by first | rfl | (simp only [Tr.get]; simp; done)) trivial)) rfl
 all_goals (refine x_ret ?_; simp only [fitsL, fits, C.asD, and_true] <;> (refine row_inj ?_; rw [hA, List.take_of_length_le (past_end (by assumption))]))

set_option maxHeartbeats 1000000 in
theorem refFroms_any (l : (List (ByteArray × ByteArray))) (hl : l.length ≤ 1000) : Contract Tryz.prog 117 [.row (l.map pairD)] [.d (.row ((froms l).map strD))] := by
 refine T.fn [] Tryz.func117 ?_
 refine xloopR (fb := []) T.ok (Nat.le_of_ble_eq_true rfl) [0] (fun (s : Nat × Nat × List ByteArray) => [(4, .c (.d (.sc (.int .i64 ((s.1 : Nat) : Int))))), (3, .c (.own 5 9 (s.2.2.map strD)))]) (fun s => s.1 ≤ l.length ∧ s.2.2 = froms (l.take s.1)) (fun s => l.length - s.1) (0, 5, []) ⟨Nat.zero_le _, rfl⟩ (x_ent (by first | rfl | (simp only [Tr.get]; simp; done)) (x_ent (by first | rfl | (simp only [Tr.get]; simp; done)) trivial)) ?_
 rintro s ⟨hk, hA⟩
 have hAl : s.2.2.length ≤ 1000 := by rw [hA]; exact froms_len hl
 refine x_len ?_
 refine br (fun hc1 => ?y1) (fun hc1 => ?n1)
 case' y1 =>
  obtain ⟨p, hp⟩ := elem_at hc1
  have hkl := lt_len hp
  first | refine x_ix (by exact mapAt hp) ?_ | refine x_ixI (by exact mapAt hp) ?_
  first | refine x_app ?_ (by first | exact strs_wide | exact pairs_wide | exact rs_wide | exact fD_wide | (simp [D.cells])) (hz := by first | exact snoc_map (g := strD) | exact one_map (g := strD) | rfl) | refine x_appN ?_ (by first | exact strs_wide | exact pairs_wide | exact rs_wide | exact fD_wide | (simp [D.cells]))
  first | refine x_bin (pr_add1 (by omega)) rfl ?_ | refine x_inc ?_ | refine x_add ?_ | refine x_bin rfl rfl ?_
  refine x_rnd (s.1 + 1, 0, s.2.2 ++ [p.1]) ⟨lt_len hp, by rw [hA]; exact (froms_next hp).symm⟩ (by (try dsimp only); have := lt_len hp; (try dsimp only); omega) rfl (x_ent (by first | rfl | (simp only [Tr.get]; simp; done)) (x_ent (by first | rfl | (simp only [Tr.get]; simp; done)) trivial)) rfl
 all_goals (refine x_ret ?_; simp only [fitsL, fits, C.asD, and_true] <;> (refine row_inj ?_; rw [hA, List.take_of_length_le (past_end (by assumption))]))

set_option maxHeartbeats 1000000 in
theorem heavyPairs_any (l : (List (ByteArray × ByteArray))) : Contract Tryz.prog 41 [.row (l.map pairD)] [.d (.sc (.bool (heavyP l)))] := by
 refine T.fn [] Tryz.func41 ?_
 refine x_len ?_
 refine br (fun hc1 => ?y1) (fun hc1 => ?n1)
 case' n1 =>
  have h20 : l.length ≤ 20 := by omega
  refine xloopR (fb := []) T.ok (Nat.le_of_ble_eq_true rfl) [0] (fun (k : Nat) => [(3, .c (.d (.sc (.int .i64 (k : Nat)))))]) (fun k => k ≤ l.length ∧ (l.take k).any (fun p => decide (200 < p.1.size) || decide (200 < p.2.size)) = false ∧ l.length ≤ 20) (fun k => l.length - k) 0 ⟨Nat.zero_le _, ⟨rfl, h20⟩⟩ (x_ent (by first | rfl | (simp only [Tr.get]; simp; done)) trivial) ?_
  rintro k ⟨hk, hi⟩
  refine x_len ?_
  refine br (fun hc2 => ?y2) (fun hc2 => ?n2)
  case' y2 =>
   obtain ⟨p, hp⟩ := elem_at hc2
   have hkl := lt_len hp
   first | refine x_ix (by exact mapAt hp) ?_ | refine x_ixI (by exact mapAt hp) ?_
   refine x_len ?_
   refine br (fun hg3 => ?y3) (fun hg3 => ?n3)
   case' y3 =>
    refine brT ?_
   case' n3 =>
    first | refine x_ix (by exact mapAt hp) ?_ | refine x_ixI (by exact mapAt hp) ?_
    refine x_len ?_
    refine br (fun hc5 => ?y5) (fun hc5 => ?n5)
    case' n5 =>
     first | refine x_inc ?_ | refine x_add ?_ | refine x_bin rfl rfl ?_
     refine x_rnd (k + 1) ⟨lt_len hp, any_next hp hi.1 (by simp; omega), hi.2⟩ (by (try dsimp only); have := lt_len hp; omega) rfl (x_ent (by first | rfl | (simp only [Tr.get]; simp; done)) trivial) rfl
 all_goals (refine x_ret ?_; simp only [fitsL, fits, C.asD, and_true] <;> (refine scb ?_; first | (have hh := any_hit (f := fun p : ByteArray × ByteArray => decide (200 < p.1.size) || decide (200 < p.2.size)) hp (by simp; omega); unfold heavyP; rw [hh, Bool.or_true]; done) | (have hh := any_end (past_end (by assumption)) hi.1; unfold heavyP; rw [hh, Bool.or_false]; symm; simp only [decide_eq_true_eq, decide_eq_false_iff_not, Bool.not_eq_true', Bool.not_eq_false', Bool.and_eq_true, Bool.or_eq_true, Bool.or_eq_false_iff, Bool.and_eq_false_iff, beq_iff_eq, beq_eq_false_iff_ne, ne_eq, Bool.not_true, Bool.not_false, Bool.false_eq_true, Bool.true_eq_false] at * <;> omega) | (symm; unfold heavyP; simp only [decide_eq_true_eq, decide_eq_false_iff_not, Bool.not_eq_true', Bool.not_eq_false', Bool.and_eq_true, Bool.or_eq_true, Bool.or_eq_false_iff, Bool.and_eq_false_iff, beq_iff_eq, beq_eq_false_iff_ne, ne_eq, Bool.not_true, Bool.not_false, Bool.false_eq_true, Bool.true_eq_false] at * <;> omega)))

set_option maxHeartbeats 1000000 in
theorem refTable_any (l m : (List (ByteArray × ByteArray))) (hl : l.length ≤ 1000) (hm : m.length ≤ 1000) : Contract Tryz.prog 90 [.row (l.map pairD), .row (m.map pairD)] [.d (.sc (.bool (rightT l m)))] := by
 refine T.fn [] Tryz.func90 ?_
 refine x_len ?_
 refine br (fun hg1 => ?y1) (fun hg1 => ?n1)
 case' y1 =>
  refine brT ?_
 case' n1 =>
  refine x_len ?_
  refine br (fun hc3 => ?y3) (fun hc3 => ?n3)
  case' n3 =>
   have hlo : 1 ≤ l.length := by omega
   have hhi : l.length ≤ 6 := by omega
   refine xloopR (fb := []) T.ok (Nat.le_of_ble_eq_true rfl) [0, 1] (fun (k : Nat) => [(5, .c (.d (.sc (.int .i64 (k : Nat)))))]) (fun k => k ≤ l.length ∧ okT l m k = true ∧ 1 ≤ l.length ∧ l.length ≤ 6) (fun k => l.length - k) 0 ⟨Nat.zero_le _, ⟨okT_zero l m, hlo, hhi⟩⟩ (x_ent (by first | rfl | (simp only [Tr.get]; simp; done)) trivial) ?_
   rintro k ⟨hk, hi⟩
   refine x_len ?_
   refine br (fun hc4 => ?y4) (fun hc4 => ?n4)
   case' y4 =>
    obtain ⟨p, hp⟩ := elem_at hc4
    have hkl := lt_len hp
    refine And.intro ⟨T.mixed, by decide +kernel⟩ ?_
    first | refine x_ix (by exact mapAt hp) ?_ | refine x_ixI (by exact mapAt hp) ?_
    refine x_call T.en_91 (refName_any _) ?_
    refine br (fun hg5 => ?y5) (fun hg5 => ?n5)
    case' y5 =>
     refine brT ?_
     refine brT ?_
    case' n5 =>
     first | refine x_bnd ?_ | refine x_bndI ?_
     refine x_row ?_ (by first | exact strs_wide | exact pairs_wide | exact rs_wide | exact fD_wide | (simp [D.cells])) (hy := by first | exact take_fold | rfl)
     refine x_call T.en_117 (refFroms_any _ (by first | assumption | exact hx0.2.1 | exact hx0.2.2 | (rw [List.length_take]; omega))) ?_
     first | refine x_ix (by exact mapAt hp) ?_ | refine x_ixI (by exact mapAt hp) ?_
     refine x_call T.en_132 (refHas_any _ _ (by first | (have := froms_len (k := k) hl; omega) | (have : (froms m).length ≤ 1000 := by unfold froms; rw [List.length_map]; exact hm); omega)) ?_
     refine br (fun hg8 => ?y8) (fun hg8 => ?n8)
     case' y8 =>
      refine brT ?_
     case' n8 =>
      refine x_call T.en_117 (refFroms_any _ (by first | assumption | exact hx0.2.1 | exact hx0.2.2 | (rw [List.length_take]; omega))) ?_
      first | refine x_ix (by exact mapAt hp) ?_ | refine x_ixI (by exact mapAt hp) ?_
      refine x_call T.en_132 (refHas_any _ _ (by first | (have := froms_len (k := k) hl; omega) | (have : (froms m).length ≤ 1000 := by unfold froms; rw [List.length_map]; exact hm); omega)) ?_
      refine br (fun hc10 => ?y10) (fun hc10 => ?n10)
      case' n10 =>
       first | refine x_inc ?_ | refine x_add ?_ | refine x_bin rfl rfl ?_
       refine x_rnd (k + 1) ⟨lt_len hp, okT_next hp hi.1 (by simp_all) (by simp_all) (by simp_all), hi.2⟩ (by (try dsimp only); have := lt_len hp; omega) rfl (x_ent (by first | rfl | (simp only [Tr.get]; simp; done)) trivial) rfl
 all_goals (refine x_ret ?_; simp only [fitsL, fits, C.asD, and_true] <;> (refine scb ?_; first | (refine (rightT_short ?_).symm; omega; done) | (refine (rightT_long ?_).symm; omega; done) | exact (rightT_yes hi.2.1 hi.2.2 (past_end (by assumption)) hi.1).symm | (refine (rightT_no hp ?_).symm; simp_all; done)))

set_option maxHeartbeats 1000000 in
theorem rightTable_any (l m : (List (ByteArray × ByteArray))) (hl : l.length ≤ 1000) (hm : m.length ≤ 1000) : Contract Tryz.prog 130 [.row (l.map pairD), .row (m.map pairD)] [.d (.sc (.bool (rightT l m)))] := by
 refine T.fn [] Tryz.func130 ?_
 refine x_len ?_
 refine br (fun hg1 => ?y1) (fun hg1 => ?n1)
 case' y1 =>
  refine brT ?_
 case' n1 =>
  refine x_len ?_
  refine br (fun hc3 => ?y3) (fun hc3 => ?n3)
  case' n3 =>
   have hlo : 1 ≤ l.length := by omega
   have hhi : l.length ≤ 6 := by omega
   refine x_len ?_
   refine xloopR (fb := []) T.ok (Nat.le_of_ble_eq_true rfl) [0, 1, 19, 20] (fun (k : Nat) => [(21, .c (.d (.sc (.int .i64 (k : Nat)))))]) (fun k => k ≤ l.length ∧ okT l m k = true ∧ 1 ≤ l.length ∧ l.length ≤ 6) (fun k => l.length - k) 0 ⟨Nat.zero_le _, ⟨okT_zero l m, hlo, hhi⟩⟩ (x_ent (by first | rfl | (simp only [Tr.get]; simp; done)) trivial) ?_
   rintro k ⟨hk, hi⟩
   refine br (fun hc4 => ?y4) (fun hc4 => ?n4)
   case' y4 =>
    obtain ⟨p, hp⟩ := elem_at hc4
    have hkl := lt_len hp
    first | refine x_ix (by first | exact mapAt hp | exact mapAt hq) ?_ | refine x_ixI (by first | exact mapAt hp | exact mapAt hq) ?_
    refine x_call T.en_81 (name_any _) ?_
    refine br (fun hc5 => ?y5) (fun hc5 => ?n5)
    case' n5 =>
     first | refine x_bnd ?_ | refine x_bndI ?_
     refine x_row ?_ (by first | exact strs_wide | exact pairs_wide | exact rs_wide | exact fD_wide | (simp [D.cells])) (hy := by first | exact take_fold | rfl)
     refine x_len ?_
     refine xloopR (fb := []) T.ok (Nat.le_of_ble_eq_true rfl) [0, 1, 6, 19, 20, 21, 32, 33] (fun (j : Nat) => [(34, .c (.d (.sc (.int .i64 (j : Nat)))))]) (fun j => j ≤ (l.take k).length ∧ p.1 ∉ froms ((l.take k).take j)) (fun j => (l.take k).length - j) 0 ⟨Nat.zero_le _, by simp [froms]⟩ (x_ent (by first | rfl | (simp only [Tr.get]; simp; done)) trivial) ?_
     rintro j ⟨hjk, hj⟩
     have htl : (l.take k).length ≤ 6 := by rw [List.length_take]; omega
     refine br (fun hc6 => ?y6) (fun hc6 => ?n6)
     case' y6 =>
      obtain ⟨q, hq⟩ := elem_at hc6
      have hkl2 := lt_len hq
      first | refine x_ix (by first | exact mapAt hp | exact mapAt hq) ?_ | refine x_ixI (by first | exact mapAt hp | exact mapAt hq) ?_
      refine br (fun hc7 => ?y7) (fun hc7 => ?n7)
      case' n7 =>
       first | refine x_inc ?_ | refine x_add ?_ | refine x_bin rfl rfl ?_
       refine x_rnd (j + 1) ⟨lt_len hq, froms_no hq hj (by assumption)⟩ (by (try dsimp only); have := lt_len hq; omega) rfl (x_ent (by first | rfl | (simp only [Tr.get]; simp; done)) trivial) rfl
     case' n6 =>
      have hjn : ¬ p.1 ∈ froms (l.take k) := by have h0 := past_end hc6; rw [List.take_of_length_le h0] at hj; exact hj
      refine x_call T.en_131 (case_any _ _ hm) ?_
      refine br (fun hc8 => ?y8) (fun hc8 => ?n8)
      case' n8 =>
       first | refine x_inc ?_ | refine x_add ?_ | refine x_bin rfl rfl ?_
       refine x_rnd (k + 1) ⟨lt_len hp, okT_next hp hi.1 (by simp_all) hjn (by have := caseT_some (t := m) (s := p.2); simp_all), hi.2⟩ (by (try dsimp only); have := lt_len hp; omega) rfl (x_ent (by first | rfl | (simp only [Tr.get]; simp; done)) trivial) rfl
 all_goals (refine x_ret ?_; simp only [fitsL, fits, C.asD, and_true] <;> (refine scb ?_; first | (refine (rightT_short ?_).symm; omega; done) | (refine (rightT_long ?_).symm; omega; done) | exact (rightT_yes hi.2.1 hi.2.2 (past_end (by assumption)) hi.1).symm | (refine (rightT_no hp ?_).symm; have hm1 := froms_mem hq (by assumption); simp [hm1]; done) | (refine (rightT_no hp ?_).symm; have := caseT_some (t := m) (s := p.2); simp_all; done)))
end Go.Vm
end
section
namespace Go.Vm
open Go.RowKit Go.Proofs
set_option linter.unusedVariables false
set_option linter.unusedSimpArgs false
set_option maxRecDepth 10000

set_option maxHeartbeats 1000000 in
theorem lensSame_any (x y : LensD) (hx0 : okX x) : Contract Tryz.prog 49 [lD x, lD y] [.d (.sc (.bool (decide (x = y))))] := by
 refine T.fn [] Tryz.func49 ?_
 refine br (fun hg1 => ?y1) (fun hg1 => ?n1)
 case' y1 =>
  first | refine xeq_25e _ _ ?_ | refine xeq_25e _ noRef ?_ | refine xeq_25e noRef _ ?_
  refine br (fun hg2 => ?y2) (fun hg2 => ?n2)
  case' y2 =>
   refine br (fun hg3 => ?y3) (fun hg3 => ?n3)
   case' y3 =>
    refine br (fun hg4 => ?y4) (fun hg4 => ?n4)
    case' y4 =>
     refine br (fun hg5 => ?y5) (fun hg5 => ?n5)
     case' y5 =>
      refine x_call T.en_92 (fieldSame_any _ _ (by first | assumption | exact hx0.1)) ?_
      refine br (fun hg6 => ?y6) (fun hg6 => ?n6)
      case' y6 =>
       refine x_call T.en_93 (samePairs_any _ _ (by first | assumption | exact hx0.2.1 | exact hx0.2.2)) ?_
       refine br (fun hg7 => ?y7) (fun hg7 => ?n7)
       case' y7 =>
        refine x_call T.en_93 (samePairs_any _ _ (by first | assumption | exact hx0.2.1 | exact hx0.2.2)) ?_
      case' n6 =>
       refine brF ?_
     case' n5 =>
      refine brF ?_
      refine brF ?_
    case' n4 =>
     refine brF ?_
     refine brF ?_
     refine brF ?_
   case' n3 =>
    refine brF ?_
    refine brF ?_
    refine brF ?_
    refine brF ?_
  case' n2 =>
   refine brF ?_
   refine brF ?_
   refine brF ?_
   refine brF ?_
   refine brF ?_
 case' n1 =>
  refine brF ?_
  refine brF ?_
  refine brF ?_
  refine brF ?_
  refine brF ?_
  refine brF ?_
 all_goals (refine x_ret ?_; simp only [fitsL, fits, C.asD, and_true] <;> (refine scb ?_; clear hx0; cases x; cases y; simp_all))

set_option maxHeartbeats 1000000 in
theorem refLensSame_any (x y : LensD) (hx0 : okX x) : Contract Tryz.prog 57 [lD x, lD y] [.d (.sc (.bool (decide (x = y))))] := by
 refine T.fn [] Tryz.func57 ?_
 refine br (fun hg1 => ?y1) (fun hg1 => ?n1)
 case' y1 =>
  first | refine xeq_25e _ _ ?_ | refine xeq_25e _ noRef ?_ | refine xeq_25e noRef _ ?_
  refine br (fun hg2 => ?y2) (fun hg2 => ?n2)
  case' y2 =>
   refine br (fun hg3 => ?y3) (fun hg3 => ?n3)
   case' y3 =>
    refine br (fun hg4 => ?y4) (fun hg4 => ?n4)
    case' y4 =>
     refine br (fun hg5 => ?y5) (fun hg5 => ?n5)
     case' y5 =>
      refine x_call T.en_65 (refFieldSame_any _ _ (by first | assumption | exact hx0.1)) ?_
      refine br (fun hg6 => ?y6) (fun hg6 => ?n6)
      case' y6 =>
       refine x_call T.en_104 (refSamePairs_any _ _ (by first | assumption | exact hx0.2.1 | exact hx0.2.2)) ?_
       refine br (fun hg7 => ?y7) (fun hg7 => ?n7)
       case' y7 =>
        refine x_call T.en_104 (refSamePairs_any _ _ (by first | assumption | exact hx0.2.1 | exact hx0.2.2)) ?_
      case' n6 =>
       refine brF ?_
     case' n5 =>
      refine brF ?_
      refine brF ?_
    case' n4 =>
     refine brF ?_
     refine brF ?_
     refine brF ?_
   case' n3 =>
    refine brF ?_
    refine brF ?_
    refine brF ?_
    refine brF ?_
  case' n2 =>
   refine brF ?_
   refine brF ?_
   refine brF ?_
   refine brF ?_
   refine brF ?_
 case' n1 =>
  refine brF ?_
  refine brF ?_
  refine brF ?_
  refine brF ?_
  refine brF ?_
  refine brF ?_
 all_goals (refine x_ret ?_; simp only [fitsL, fits, C.asD, and_true] <;> (refine scb ?_; clear hx0; cases x; cases y; simp_all))
end Go.Vm
end
section
namespace Go.Vm
open Go.RowKit Go.Proofs
set_option linter.unusedVariables false
set_option linter.unusedSimpArgs false
set_option maxRecDepth 10000

theorem parts_a {x : LensD} (h : x.kind = 1 ∨ x.kind = 5) : partsL x = (⟨x.kind, x.at_, x.name, noB, 0, noField, [], []⟩, true) := by unfold partsL; rw [if_pos h]
theorem parts_b {x : LensD} (h : x.kind = 2 ∨ x.kind = 3) : partsL x = (⟨x.kind, noRef, noB, noB, 0, x.field, [], []⟩, true) := by unfold partsL; rw [if_neg (by omega), if_pos h]
theorem parts_c {x : LensD} (h : x.kind = 4) : partsL x = (⟨x.kind, x.at_, noB, noB, 0, noField, [], []⟩, true) := by unfold partsL; rw [if_neg (by omega), if_neg (by omega), if_pos h]
theorem parts_d {x : LensD} (h : x.kind = 6 ∨ x.kind = 9) : partsL x = (⟨x.kind, x.at_, x.name, x.other, x.factor, noField, [], []⟩, true) := by unfold partsL; rw [if_neg (by omega), if_neg (by omega), if_neg (by omega), if_pos h]
theorem parts_e {x : LensD} (h : x.kind = 7 ∨ x.kind = 10) : partsL x = (⟨x.kind, x.at_, noB, x.other, 0, noField, [], []⟩, true) := by unfold partsL; rw [if_neg (by omega), if_neg (by omega), if_neg (by omega), if_neg (by omega), if_pos h]
theorem parts_f {x : LensD} (h : x.kind = 8) : partsL x = (⟨x.kind, x.at_, x.name, x.other, 0, noField, x.forth, x.back⟩, true) := by unfold partsL; rw [if_neg (by omega), if_neg (by omega), if_neg (by omega), if_neg (by omega), if_neg (by omega), if_pos h]
theorem parts_g {x : LensD} (h : ¬ x.kind = 1 ∧ ¬ x.kind = 2 ∧ ¬ x.kind = 3 ∧ ¬ x.kind = 4 ∧ ¬ x.kind = 5 ∧ ¬ x.kind = 6 ∧ ¬ x.kind = 7 ∧ ¬ x.kind = 8 ∧ ¬ x.kind = 9 ∧ ¬ x.kind = 10) : partsL x = (noLens, false) := by unfold partsL; rw [if_neg (by omega), if_neg (by omega), if_neg (by omega), if_neg (by omega), if_neg (by omega), if_neg (by omega)]

set_option maxHeartbeats 1000000 in
theorem lensOwn_any (x : LensD) (hx0 : okX x) : Contract Tryz.prog 121 [lD x] [.d (lD x)] := by
 refine T.fn [] Tryz.func121 ?_
 have hl1 := hx0.2.1
 have hl2 := hx0.2.2
 refine x_call T.en_119 (fieldOwn_any _ (by first | assumption | exact hx0.1)) ?_
 first | refine x_app ?_ (by first | exact strs_wide | exact pairs_wide | exact rs_wide | exact fD_wide | (simp [D.cells])) | refine x_appN ?_ (by first | exact strs_wide | exact pairs_wide | exact rs_wide | exact fD_wide | (simp [D.cells]))
 first | refine x_app ?_ (by first | exact strs_wide | exact pairs_wide | exact rs_wide | exact fD_wide | (simp [D.cells])) | refine x_appN ?_ (by first | exact strs_wide | exact pairs_wide | exact rs_wide | exact fD_wide | (simp [D.cells]))
 all_goals (refine x_ret ?_; simp only [fitsL, fits, C.asD, and_true] <;> (rfl))

set_option maxHeartbeats 1000000 in
theorem refLensHeavy_any (x : LensD) : Contract Tryz.prog 7 [lD x] [.d (.sc (.bool (heavyL x)))] := by
 refine T.fn [] Tryz.func7 ?_
 refine x_len ?_
 refine br (fun hg1 => ?y1) (fun hg1 => ?n1)
 case' y1 =>
  refine brT ?_
  refine brT ?_
  refine brT ?_
  refine brT ?_
  refine brT ?_
 case' n1 =>
  refine x_len ?_
  refine br (fun hg7 => ?y7) (fun hg7 => ?n7)
  case' y7 =>
   refine brT ?_
   refine brT ?_
   refine brT ?_
   refine brT ?_
  case' n7 =>
   refine x_len ?_
   refine br (fun hg12 => ?y12) (fun hg12 => ?n12)
   case' y12 =>
    refine brT ?_
    refine brT ?_
    refine brT ?_
   case' n12 =>
    refine x_len ?_
    refine br (fun hg16 => ?y16) (fun hg16 => ?n16)
    case' y16 =>
     refine brT ?_
     refine brT ?_
    case' n16 =>
     refine x_call T.en_40 (refFieldHeavy_any _) ?_
     refine br (fun hg19 => ?y19) (fun hg19 => ?n19)
     case' y19 =>
      refine brT ?_
     case' n19 =>
      refine x_call T.en_41 (heavyPairs_any _) ?_
      refine br (fun hg21 => ?y21) (fun hg21 => ?n21)
      case' n21 =>
       refine x_call T.en_41 (heavyPairs_any _) ?_
 all_goals (refine x_ret ?_; simp only [fitsL, fits, C.asD, and_true] <;> (refine scb ?_; symm; unfold heavyL; first | (simp_all; done) | (simp_all <;> omega)))

set_option maxHeartbeats 1000000 in
theorem parts_any (x : LensD) (hx0 : okX x) : Contract Tryz.prog 78 [lD x] [.d (lD (partsL x).1), .d (.sc (.bool ((partsL x).2)))] := by
 refine T.fn [] Tryz.func78 ?_
 refine br (fun hc1 => ?y1) (fun hc1 => ?n1)
 case' y1 =>
  have hkkind_1 := hc1
  refine brT ?_
  refine And.intro ⟨T.mixed, by decide +kernel⟩ ?_
 case' n1 =>
  have hnkind_1 := hc1
  refine br (fun hc3 => ?y3) (fun hc3 => ?n3)
  case' y3 =>
   have hkkind_5 := hc3
   refine And.intro ⟨T.mixed, by decide +kernel⟩ ?_
  case' n3 =>
   have hnkind_5 := hc3
   refine br (fun hc4 => ?y4) (fun hc4 => ?n4)
   case' y4 =>
    have hkkind_2 := hc4
    refine brT ?_
   case' n4 =>
    have hnkind_2 := hc4
    refine br (fun hc6 => ?y6) (fun hc6 => ?n6)
    case' y6 =>
     have hkkind_3 := hc6
    case' n6 =>
     have hnkind_3 := hc6
     refine br (fun hc7 => ?y7) (fun hc7 => ?n7)
     case' y7 =>
      have hkkind_4 := hc7
     case' n7 =>
      have hnkind_4 := hc7
      refine br (fun hc8 => ?y8) (fun hc8 => ?n8)
      case' y8 =>
       have hkkind_6 := hc8
       refine brT ?_
       refine And.intro ⟨T.mixed, by decide +kernel⟩ ?_
      case' n8 =>
       have hnkind_6 := hc8
       refine br (fun hc10 => ?y10) (fun hc10 => ?n10)
       case' y10 =>
        have hkkind_9 := hc10
        refine And.intro ⟨T.mixed, by decide +kernel⟩ ?_
       case' n10 =>
        have hnkind_9 := hc10
        refine br (fun hc11 => ?y11) (fun hc11 => ?n11)
        case' y11 =>
         have hkkind_7 := hc11
         refine brT ?_
         refine And.intro ⟨T.mixed, by decide +kernel⟩ ?_
        case' n11 =>
         have hnkind_7 := hc11
         refine br (fun hc13 => ?y13) (fun hc13 => ?n13)
         case' y13 =>
          have hkkind_10 := hc13
          refine And.intro ⟨T.mixed, by decide +kernel⟩ ?_
         case' n13 =>
          have hnkind_10 := hc13
          refine br (fun hc14 => ?y14) (fun hc14 => ?n14)
          case' y14 =>
           have hkkind_8 := hc14
           refine And.intro ⟨T.mixed, by decide +kernel⟩ ?_
           refine And.intro ⟨T.mixed, by decide +kernel⟩ ?_
          case' n14 =>
           have hnkind_8 := hc14
 all_goals (refine x_ret ?_; simp only [fitsL, fits, C.asD, and_true] <;> (first | (rw [parts_a (by omega)]; exact ⟨by kernel_rfl, by kernel_rfl⟩) | (rw [parts_b (by omega)]; exact ⟨by kernel_rfl, by kernel_rfl⟩) | (rw [parts_c (by omega)]; exact ⟨by kernel_rfl, by kernel_rfl⟩) | (rw [parts_d (by omega)]; exact ⟨by kernel_rfl, by kernel_rfl⟩) | (rw [parts_e (by omega)]; exact ⟨by kernel_rfl, by kernel_rfl⟩) | (rw [parts_f (by omega)]; exact ⟨by kernel_rfl, by kernel_rfl⟩) | (rw [parts_g (by omega)]; exact ⟨by kernel_rfl, by kernel_rfl⟩)))

set_option maxHeartbeats 1000000 in
theorem rightTables_any (x : LensD) (hx0 : okX x) : Contract Tryz.prog 84 [lD x] [.d (.sc (.bool (rightTb x)))] := by
 refine T.fn [] Tryz.func84 ?_
 refine x_call T.en_81 (name_any _) ?_
 refine br (fun hg1 => ?y1) (fun hg1 => ?n1)
 case' y1 =>
  refine brT ?_
  refine brT ?_
 case' n1 =>
  refine x_call T.en_130 (rightTable_any _ _ (by first | exact hx0.2.1 | exact hx0.2.2) (by first | exact hx0.2.1 | exact hx0.2.2)) ?_
  refine br (fun hg4 => ?y4) (fun hg4 => ?n4)
  case' y4 =>
   refine brT ?_
  case' n4 =>
   refine x_call T.en_130 (rightTable_any _ _ (by first | exact hx0.2.1 | exact hx0.2.2) (by first | exact hx0.2.1 | exact hx0.2.2)) ?_
   refine br (fun hc6 => ?y6) (fun hc6 => ?n6)
   case' n6 =>
    refine x_call T.en_131 (case_any _ _ (by first | assumption | exact hx0.2.1 | exact hx0.2.2)) ?_
    refine br (fun hg7 => ?y7) (fun hg7 => ?n7)
    case' y7 =>
     refine brT ?_
    case' n7 =>
     refine br (fun hc9 => ?y9) (fun hc9 => ?n9)
     case' n9 =>
      refine x_call T.en_131 (case_any _ _ (by first | assumption | exact hx0.2.1 | exact hx0.2.2)) ?_
      refine br (fun hg10 => ?y10) (fun hg10 => ?n10)
 all_goals (refine x_ret ?_; simp only [fitsL, fits, C.asD, and_true] <;> (refine scb ?_; unfold rightTb; first | (simp_all; done) | (rcases hcf : caseT x.forth x.name with ⟨a, b⟩; rcases hcb : caseT x.back x.other with ⟨c, d⟩; simp_all; done)))
end Go.Vm
end
section
namespace Go.Vm
open Go.RowKit Go.Proofs
set_option linter.unusedVariables false
set_option linter.unusedSimpArgs false
set_option maxRecDepth 10000

set_option maxHeartbeats 1000000 in
theorem lensRight_any (x : LensD) (hx0 : okX x) : Contract Tryz.prog 46 [lD x] [.d (.sc (.bool (rightL x)))] := by
 refine T.fn [] Tryz.func46 ?_
 refine x_call T.en_78 (parts_any _ hx0) ?_
 refine And.intro (fun hg1 => ?y1) (fun hg1 => ?n1)
 case' y1 =>
  refine brT ?_
 case' n1 =>
  refine x_call T.en_49 (lensSame_any _ _ (by first | assumption | exact hx0)) ?_
  refine And.intro (fun hc3 => ?y3) (fun hc3 => ?n3)
  case' n3 =>
   refine And.intro (fun hg4 => ?y4) (fun hg4 => ?n4)
   case' y4 =>
    have hkkind_2 := hg4
    refine brT ?_
    refine x_call T.en_79 (fieldRight_any _ (by first | assumption | exact hx0.1)) ?_
   case' n4 =>
    have hnkind_2 := hg4
    refine And.intro (fun hc6 => ?y6) (fun hc6 => ?n6)
    case' y6 =>
     have hkkind_3 := hc6
     refine x_call T.en_79 (fieldRight_any _ (by first | assumption | exact hx0.1)) ?_
    case' n6 =>
     have hnkind_3 := hc6
     refine x_call T.en_80 (place_any _) ?_
     refine And.intro (fun hc7 => ?y7) (fun hc7 => ?n7)
     case' n7 =>
      refine And.intro (fun hc8 => ?y8) (fun hc8 => ?n8)
      case' y8 =>
       have hkkind_1 := hc8
       refine x_call T.en_81 (name_any _) ?_
      case' n8 =>
       have hnkind_1 := hc8
       refine And.intro (fun hc9 => ?y9) (fun hc9 => ?n9)
       case' y9 =>
        have hkkind_4 := hc9
       case' n9 =>
        have hnkind_4 := hc9
        refine And.intro (fun hc10 => ?y10) (fun hc10 => ?n10)
        case' y10 =>
         have hkkind_5 := hc10
         refine And.intro (fun hg11 => ?y11) (fun hg11 => ?n11)
         case' y11 =>
          refine x_call T.en_81 (name_any _) ?_
        case' n10 =>
         have hnkind_5 := hc10
         refine And.intro (fun hc12 => ?y12) (fun hc12 => ?n12)
         case' y12 =>
          have hkkind_6 := hc12
          refine brT ?_
          refine x_call T.en_81 (name_any _) ?_
          refine And.intro (fun hg14 => ?y14) (fun hg14 => ?n14)
          case' y14 =>
           refine x_call T.en_81 (name_any _) ?_
           refine And.intro (fun hg15 => ?y15) (fun hg15 => ?n15)
           case' y15 =>
            refine And.intro (fun hg16 => ?y16) (fun hg16 => ?n16)
            case' y16 =>
             refine x_call T.en_82 (factor_any _) ?_
           case' n15 =>
            refine brF ?_
          case' n14 =>
           refine brF ?_
           refine brF ?_
         case' n12 =>
          have hnkind_6 := hc12
          refine And.intro (fun hc20 => ?y20) (fun hc20 => ?n20)
          case' y20 =>
           have hkkind_9 := hc20
           refine x_call T.en_81 (name_any _) ?_
           refine And.intro (fun hg21 => ?y21) (fun hg21 => ?n21)
           case' y21 =>
            refine x_call T.en_81 (name_any _) ?_
            refine And.intro (fun hg22 => ?y22) (fun hg22 => ?n22)
            case' y22 =>
             refine And.intro (fun hg23 => ?y23) (fun hg23 => ?n23)
             case' y23 =>
              refine x_call T.en_82 (factor_any _) ?_
            case' n22 =>
             refine brF ?_
           case' n21 =>
            refine brF ?_
            refine brF ?_
          case' n20 =>
           have hnkind_9 := hc20
           refine And.intro (fun hc27 => ?y27) (fun hc27 => ?n27)
           case' y27 =>
            have hkkind_7 := hc27
            refine brT ?_
            refine x_call T.en_83 (text_any _) ?_
           case' n27 =>
            have hnkind_7 := hc27
            refine And.intro (fun hc29 => ?y29) (fun hc29 => ?n29)
            case' y29 =>
             have hkkind_10 := hc29
             refine x_call T.en_83 (text_any _) ?_
            case' n29 =>
             have hnkind_10 := hc29
             refine x_call T.en_84 (rightTables_any _ hx0) ?_
 all_goals (refine x_ret ?_; simp only [fitsL, fits, C.asD, and_true] <;> (refine scb ?_; rw [← rightLp_eq, rightLp_q]; generalize (partsL x).2 = b2 at *; generalize decide (x = (partsL x).1) = b1 at *; unfold rightLq; first | (simp_all; done) | (simp_all [emp]; done) | grind))

set_option maxHeartbeats 1000000 in
theorem tables_any (x : LensD) : Contract Tryz.prog 85 [lD x] [.d (.sc (.bool (!(decide (x.forth.length = 0) && decide (x.back.length = 0)))))] := by
 refine T.fn [] Tryz.func85 ?_
 refine x_len ?_
 refine br (fun hg1 => ?y1) (fun hg1 => ?n1)
 case' n1 =>
  refine x_len ?_
 all_goals (refine x_ret ?_; simp only [fitsL, fits, C.asD, and_true] <;> (refine scb ?_; first | (symm; simp only [decide_eq_true_eq, decide_eq_false_iff_not, Bool.not_eq_true', Bool.not_eq_false', Bool.and_eq_true, Bool.or_eq_true, Bool.or_eq_false_iff, Bool.and_eq_false_iff, beq_iff_eq, beq_eq_false_iff_ne, ne_eq, Bool.not_true, Bool.not_false, Bool.false_eq_true, Bool.true_eq_false] at * <;> omega) | (rw [Bool.eq_iff_iff]; simp only [decide_eq_true_eq, decide_eq_false_iff_not, Bool.not_eq_true', Bool.not_eq_false', Bool.and_eq_true, Bool.or_eq_true, Bool.or_eq_false_iff, Bool.and_eq_false_iff, beq_iff_eq, beq_eq_false_iff_ne, ne_eq, Bool.not_true, Bool.not_false, Bool.false_eq_true, Bool.true_eq_false] at * <;> omega)))

set_option maxHeartbeats 1000000 in
theorem none_any (x : LensD) (hx0 : okX x) : Contract Tryz.prog 88 [lD x] [.d (.sc (.bool (decide (x.field = noField))))] := by
 refine T.fn [] Tryz.func88 ?_
 refine x_call T.en_65 (refFieldSame_any x.field noField hx0.1) ?_
 all_goals (refine x_ret ?_; simp only [fitsL, fits, C.asD, and_true] <;> (rfl))

set_option maxHeartbeats 1000000 in
theorem refLensRight_any (x : LensD) (hx0 : okX x) : Contract Tryz.prog 48 [lD x] [.d (.sc (.bool (rightL x)))] := by
 refine T.fn [] Tryz.func48 ?_
 refine br (fun hg1 => ?y1) (fun hg1 => ?n1)
 case' y1 =>
  have hkkind_2 := hg1
  refine brT ?_
  first | refine xeq_25e _ _ ?_ | refine xeq_25e _ noRef ?_ | refine xeq_25e noRef _ ?_
  refine br (fun hg3 => ?y3) (fun hg3 => ?n3)
  case' y3 =>
   refine br (fun hg4 => ?y4) (fun hg4 => ?n4)
   case' y4 =>
    refine br (fun hg5 => ?y5) (fun hg5 => ?n5)
    case' y5 =>
     refine br (fun hg6 => ?y6) (fun hg6 => ?n6)
     case' y6 =>
      refine x_call T.en_85 (tables_any _) ?_
      refine br (fun hg7 => ?y7) (fun hg7 => ?n7)
      case' y7 =>
       refine x_call T.en_86 (refFieldRight_any _ (by first | assumption | exact hx0.1)) ?_
     case' n6 =>
      refine brF ?_
    case' n5 =>
     refine brF ?_
     refine brF ?_
   case' n4 =>
    refine brF ?_
    refine brF ?_
    refine brF ?_
  case' n3 =>
   refine brF ?_
   refine brF ?_
   refine brF ?_
   refine brF ?_
 case' n1 =>
  have hnkind_2 := hg1
  refine br (fun hc18 => ?y18) (fun hc18 => ?n18)
  case' y18 =>
   have hkkind_3 := hc18
   first | refine xeq_25e _ _ ?_ | refine xeq_25e _ noRef ?_ | refine xeq_25e noRef _ ?_
   refine br (fun hg19 => ?y19) (fun hg19 => ?n19)
   case' y19 =>
    refine br (fun hg20 => ?y20) (fun hg20 => ?n20)
    case' y20 =>
     refine br (fun hg21 => ?y21) (fun hg21 => ?n21)
     case' y21 =>
      refine br (fun hg22 => ?y22) (fun hg22 => ?n22)
      case' y22 =>
       refine x_call T.en_85 (tables_any _) ?_
       refine br (fun hg23 => ?y23) (fun hg23 => ?n23)
       case' y23 =>
        refine x_call T.en_86 (refFieldRight_any _ (by first | assumption | exact hx0.1)) ?_
      case' n22 =>
       refine brF ?_
     case' n21 =>
      refine brF ?_
      refine brF ?_
    case' n20 =>
     refine brF ?_
     refine brF ?_
     refine brF ?_
   case' n19 =>
    refine brF ?_
    refine brF ?_
    refine brF ?_
    refine brF ?_
  case' n18 =>
   have hnkind_3 := hc18
   refine x_call T.en_87 (refPlace_any _) ?_
   refine br (fun hg34 => ?y34) (fun hg34 => ?n34)
   case' y34 =>
    refine brT ?_
   case' n34 =>
    refine x_call T.en_88 (none_any _ hx0) ?_
    refine br (fun hc36 => ?y36) (fun hc36 => ?n36)
    case' n36 =>
     refine br (fun hc37 => ?y37) (fun hc37 => ?n37)
     case' y37 =>
      have hkkind_8 := hc37
      refine x_call T.en_89 (refCase_any _ _ (by first | assumption | exact hx0.2.1 | exact hx0.2.2)) ?_
      refine x_call T.en_89 (refCase_any _ _ (by first | assumption | exact hx0.2.1 | exact hx0.2.2)) ?_
      refine br (fun hg38 => ?y38) (fun hg38 => ?n38)
      case' y38 =>
       refine x_call T.en_90 (refTable_any _ _ (by first | exact hx0.2.1 | exact hx0.2.2) (by first | exact hx0.2.1 | exact hx0.2.2)) ?_
       refine br (fun hg39 => ?y39) (fun hg39 => ?n39)
       case' y39 =>
        refine x_call T.en_90 (refTable_any _ _ (by first | exact hx0.2.1 | exact hx0.2.2) (by first | exact hx0.2.1 | exact hx0.2.2)) ?_
        refine br (fun hg40 => ?y40) (fun hg40 => ?n40)
        case' y40 =>
         refine br (fun hg41 => ?y41) (fun hg41 => ?n41)
         case' y41 =>
          refine br (fun hg42 => ?y42) (fun hg42 => ?n42)
          case' y42 =>
           refine br (fun hg43 => ?y43) (fun hg43 => ?n43)
          case' n42 =>
           refine brF ?_
         case' n41 =>
          refine brF ?_
          refine brF ?_
        case' n40 =>
         refine brF ?_
         refine brF ?_
         refine brF ?_
       case' n39 =>
        refine brF ?_
        refine brF ?_
        refine brF ?_
        refine brF ?_
      case' n38 =>
       refine brF ?_
       refine brF ?_
       refine brF ?_
       refine brF ?_
       refine brF ?_
     case' n37 =>
      have hnkind_8 := hc37
      refine x_call T.en_85 (tables_any _) ?_
      refine br (fun hc59 => ?y59) (fun hc59 => ?n59)
      case' n59 =>
       refine br (fun hg60 => ?y60) (fun hg60 => ?n60)
       case' y60 =>
        have hkkind_6 := hg60
        refine brT ?_
        refine x_call T.en_91 (refName_any _) ?_
        refine br (fun hg62 => ?y62) (fun hg62 => ?n62)
        case' y62 =>
         refine x_call T.en_91 (refName_any _) ?_
         refine br (fun hg63 => ?y63) (fun hg63 => ?n63)
         case' y63 =>
          refine br (fun hg64 => ?y64) (fun hg64 => ?n64)
          case' y64 =>
           refine br (fun hg65 => ?y65) (fun hg65 => ?n65)
          case' n64 =>
           refine brF ?_
         case' n63 =>
          refine brF ?_
          refine brF ?_
        case' n62 =>
         refine brF ?_
         refine brF ?_
         refine brF ?_
       case' n60 =>
        have hnkind_6 := hg60
        refine br (fun hc72 => ?y72) (fun hc72 => ?n72)
        case' y72 =>
         have hkkind_9 := hc72
         refine x_call T.en_91 (refName_any _) ?_
         refine br (fun hg73 => ?y73) (fun hg73 => ?n73)
         case' y73 =>
          refine x_call T.en_91 (refName_any _) ?_
          refine br (fun hg74 => ?y74) (fun hg74 => ?n74)
          case' y74 =>
           refine br (fun hg75 => ?y75) (fun hg75 => ?n75)
           case' y75 =>
            refine br (fun hg76 => ?y76) (fun hg76 => ?n76)
           case' n75 =>
            refine brF ?_
          case' n74 =>
           refine brF ?_
           refine brF ?_
         case' n73 =>
          refine brF ?_
          refine brF ?_
          refine brF ?_
        case' n72 =>
         have hnkind_9 := hc72
         refine br (fun hc83 => ?y83) (fun hc83 => ?n83)
         case' n83 =>
          refine br (fun hg84 => ?y84) (fun hg84 => ?n84)
          case' y84 =>
           have hkkind_7 := hg84
           refine brT ?_
           refine br (fun hg86 => ?y86) (fun hg86 => ?n86)
           case' y86 =>
            refine x_len ?_
          case' n84 =>
           have hnkind_7 := hg84
           refine br (fun hc87 => ?y87) (fun hc87 => ?n87)
           case' y87 =>
            have hkkind_10 := hc87
            refine br (fun hg88 => ?y88) (fun hg88 => ?n88)
            case' y88 =>
             refine x_len ?_
           case' n87 =>
            have hnkind_10 := hc87
            refine br (fun hc89 => ?y89) (fun hc89 => ?n89)
            case' n89 =>
             refine br (fun hc90 => ?y90) (fun hc90 => ?n90)
             case' y90 =>
              have hkkind_1 := hc90
              refine x_call T.en_91 (refName_any _) ?_
             case' n90 =>
              have hnkind_1 := hc90
              refine br (fun hc91 => ?y91) (fun hc91 => ?n91)
              case' y91 =>
               have hkkind_4 := hc91
               refine br (fun hg92 => ?y92) (fun hg92 => ?n92)
              case' n91 =>
               have hnkind_4 := hc91
               refine br (fun hg93 => ?y93) (fun hg93 => ?n93)
               case' y93 =>
                have hkkind_5 := hg93
                refine br (fun hg94 => ?y94) (fun hg94 => ?n94)
                case' y94 =>
                 refine x_call T.en_91 (refName_any _) ?_
               case' n93 =>
                have hnkind_5 := hg93
                refine brF ?_
 all_goals (refine x_ret ?_; simp only [fitsL, fits, C.asD, and_true] <;> (refine scb ?_; unfold rightL; first | (simp_all; done) | (simp_all [emp]; done) | (rcases hcf : caseT x.forth x.name with ⟨a, b⟩; rcases hcb : caseT x.back x.other with ⟨c, d⟩; simp_all; done) | grind))
end Go.Vm
end
section
namespace Go.Vm
open Go.RowKit Go.Proofs
set_option linter.unusedVariables false
set_option linter.unusedSimpArgs false
set_option maxRecDepth 10000

theorem goes_2 {x : LensD} (h : x.kind = 2) : goesL x = [] := by simp [goesL, h]
theorem goes_3 {x : LensD} (h : x.kind = 3) : goesL x = [x.field.at_] := by simp [goesL, h]
theorem goes_9 {x : LensD} (h : x.kind = 9) : goesL x = [named x.at_ x.name, named x.at_ x.other] := by simp [goesL, h]
theorem goes_o {x : LensD} (h2 : ¬ x.kind = 2) (h3 : ¬ x.kind = 3) (h9 : ¬ x.kind = 9) : goesL x = [x.at_] := by simp [goesL, h2, h3, h9]
theorem comes_2 {x : LensD} (h : x.kind = 2) : comesL x = [x.field.at_] := by simp [comesL, h]
theorem comes_3 {x : LensD} (h : x.kind = 3) : comesL x = [] := by simp [comesL, h]
theorem comes_6 {x : LensD} (h : x.kind = 6) : comesL x = [named x.at_ x.name, named x.at_ x.other] := by simp [comesL, h]
theorem comes_1 {x : LensD} (h : x.kind = 1) : comesL x = [named x.at_ x.name] := by simp [comesL, h]
theorem comes_4 {x : LensD} (h : x.kind = 4) : comesL x = [⟨x.at_.scope, noB, x.at_.name⟩] := by simp [comesL, h]
theorem comes_5 {x : LensD} (h : x.kind = 5) : comesL x = [⟨x.at_.scope, x.name, x.at_.name⟩] := by simp [comesL, h]
theorem comes_o {x : LensD} (h1 : ¬ x.kind = 1) (h2 : ¬ x.kind = 2) (h3 : ¬ x.kind = 3) (h4 : ¬ x.kind = 4) (h5 : ¬ x.kind = 5) (h6 : ¬ x.kind = 6) : comesL x = [x.at_] := by simp [comesL, h1, h2, h3, h4, h5, h6]

set_option maxHeartbeats 1000000 in
theorem named_any (r : RefD) (s : ByteArray) : Contract Tryz.prog 140 [rD r, .sc (.string s)] [.d (rD (named r s))] := by
 refine T.fn [] Tryz.func140 ?_
 all_goals (refine x_ret ?_; simp only [fitsL, fits, C.asD, and_true] <;> (rfl))

set_option maxHeartbeats 1000000 in
theorem beside_any (r : RefD) (s : ByteArray) : Contract Tryz.prog 167 [rD r, .sc (.string s)] [.d (rD (named r s))] := by
 refine T.fn [] Tryz.func167 ?_
 all_goals (refine x_ret ?_; simp only [fitsL, fits, C.asD, and_true] <;> (rfl))

set_option maxHeartbeats 1000000 in
theorem lensGoes_any (x : LensD) (hx0 : okX x) : Contract Tryz.prog 146 [lD x] [.d (.row ((if rightL x = true then goesL x else []).map rD))] := by
 refine T.fn [] Tryz.func146 ?_
 refine x_call T.en_46 (lensRight_any _ hx0) ?_
 refine br (fun hc1 => ?y1) (fun hc1 => ?n1)
 case' y1 =>
  have hr0 : ¬ rightL x = true := by simpa using hc1
 case' n1 =>
  have hr1 : rightL x = true := by simpa using hc1
  refine br (fun hc2 => ?y2) (fun hc2 => ?n2)
  case' y2 =>
   have hkkind_2 := hc2
  case' n2 =>
   have hnkind_2 := hc2
   refine br (fun hc3 => ?y3) (fun hc3 => ?n3)
   case' y3 =>
    have hkkind_3 := hc3
   case' n3 =>
    have hnkind_3 := hc3
    refine br (fun hc4 => ?y4) (fun hc4 => ?n4)
    case' y4 =>
     have hkkind_9 := hc4
     refine And.intro ⟨T.mixed, by decide +kernel⟩ ?_
     refine x_call T.en_167 (beside_any _ _) ?_
     refine x_call T.en_167 (beside_any _ _) ?_
    case' n4 =>
     have hnkind_9 := hc4
 all_goals (refine x_ret ?_; simp only [fitsL, fits, C.asD, and_true] <;> (first | (rw [if_neg hr0]; rfl) | (rw [if_pos hr1, goes_2 hkkind_2]; rfl) | (rw [if_pos hr1, goes_3 hkkind_3]; rfl) | (rw [if_pos hr1, goes_9 hkkind_9]; rfl) | (rw [if_pos hr1, goes_o hnkind_2 hnkind_3 hnkind_9]; rfl)))

set_option maxHeartbeats 1000000 in
theorem lensComes_any (x : LensD) (hx0 : okX x) : Contract Tryz.prog 165 [lD x] [.d (.row ((if rightL x = true then comesL x else []).map rD))] := by
 refine T.fn [] Tryz.func165 ?_
 refine x_call T.en_46 (lensRight_any _ hx0) ?_
 refine br (fun hc1 => ?y1) (fun hc1 => ?n1)
 case' y1 =>
  have hr0 : ¬ rightL x = true := by simpa using hc1
 case' n1 =>
  have hr1 : rightL x = true := by simpa using hc1
  refine br (fun hc2 => ?y2) (fun hc2 => ?n2)
  case' y2 =>
   have hkkind_1 := hc2
   refine x_call T.en_167 (beside_any _ _) ?_
  case' n2 =>
   have hnkind_1 := hc2
   refine br (fun hc3 => ?y3) (fun hc3 => ?n3)
   case' y3 =>
    have hkkind_2 := hc3
   case' n3 =>
    have hnkind_2 := hc3
    refine br (fun hc4 => ?y4) (fun hc4 => ?n4)
    case' y4 =>
     have hkkind_3 := hc4
    case' n4 =>
     have hnkind_3 := hc4
     refine br (fun hc5 => ?y5) (fun hc5 => ?n5)
     case' y5 =>
      have hkkind_4 := hc5
     case' n5 =>
      have hnkind_4 := hc5
      refine br (fun hc6 => ?y6) (fun hc6 => ?n6)
      case' y6 =>
       have hkkind_5 := hc6
      case' n6 =>
       have hnkind_5 := hc6
       refine br (fun hc7 => ?y7) (fun hc7 => ?n7)
       case' y7 =>
        have hkkind_6 := hc7
        refine And.intro ⟨T.mixed, by decide +kernel⟩ ?_
        refine x_call T.en_167 (beside_any _ _) ?_
        refine x_call T.en_167 (beside_any _ _) ?_
       case' n7 =>
        have hnkind_6 := hc7
 all_goals (refine x_ret ?_; simp only [fitsL, fits, C.asD, and_true] <;> (first | (rw [if_neg hr0]; rfl) | (rw [if_pos hr1, comes_2 hkkind_2]; rfl) | (rw [if_pos hr1, comes_3 hkkind_3]; rfl) | (rw [if_pos hr1, comes_6 hkkind_6]; rfl) | (rw [if_pos hr1, comes_1 hkkind_1]; rfl) | (rw [if_pos hr1, comes_4 hkkind_4]; rfl) | (rw [if_pos hr1, comes_5 hkkind_5]; rfl) | (rw [if_pos hr1, comes_o hnkind_1 hnkind_2 hnkind_3 hnkind_4 hnkind_5 hnkind_6]; rfl)))

set_option maxHeartbeats 1000000 in
theorem refGoes_any (x : LensD) : Contract Tryz.prog 110 [lD x] [.d (.row ((goesL x).map rD))] := by
 refine T.fn [] Tryz.func110 ?_
 refine br (fun hc1 => ?y1) (fun hc1 => ?n1)
 case' y1 =>
  have hkkind_2 := hc1
 case' n1 =>
  have hnkind_2 := hc1
  refine br (fun hc2 => ?y2) (fun hc2 => ?n2)
  case' y2 =>
   have hkkind_3 := hc2
  case' n2 =>
   have hnkind_3 := hc2
   refine br (fun hc3 => ?y3) (fun hc3 => ?n3)
   case' y3 =>
    have hkkind_9 := hc3
    refine And.intro ⟨T.mixed, by decide +kernel⟩ ?_
    refine x_call T.en_140 (named_any _ _) ?_
    refine x_call T.en_140 (named_any _ _) ?_
   case' n3 =>
    have hnkind_9 := hc3
 all_goals (refine x_ret ?_; simp only [fitsL, fits, C.asD, and_true] <;> (first | (rw [goes_2 hkkind_2]; rfl) | (rw [goes_3 hkkind_3]; rfl) | (rw [goes_9 hkkind_9]; rfl) | (rw [goes_o hnkind_2 hnkind_3 hnkind_9]; rfl)))

set_option maxHeartbeats 1000000 in
theorem refComes_any (x : LensD) : Contract Tryz.prog 113 [lD x] [.d (.row ((comesL x).map rD))] := by
 refine T.fn [] Tryz.func113 ?_
 refine br (fun hc1 => ?y1) (fun hc1 => ?n1)
 case' y1 =>
  have hkkind_2 := hc1
 case' n1 =>
  have hnkind_2 := hc1
  refine br (fun hc2 => ?y2) (fun hc2 => ?n2)
  case' y2 =>
   have hkkind_3 := hc2
  case' n2 =>
   have hnkind_3 := hc2
   refine br (fun hc3 => ?y3) (fun hc3 => ?n3)
   case' y3 =>
    have hkkind_6 := hc3
    refine And.intro ⟨T.mixed, by decide +kernel⟩ ?_
    refine x_call T.en_140 (named_any _ _) ?_
    refine x_call T.en_140 (named_any _ _) ?_
   case' n3 =>
    have hnkind_6 := hc3
    refine br (fun hc4 => ?y4) (fun hc4 => ?n4)
    case' y4 =>
     have hkkind_1 := hc4
     refine x_call T.en_140 (named_any _ _) ?_
    case' n4 =>
     have hnkind_1 := hc4
     refine br (fun hc5 => ?y5) (fun hc5 => ?n5)
     case' y5 =>
      have hkkind_4 := hc5
      refine br (fun hc6 => ?y6) (fun hc6 => ?n6)
      case' y6 =>
       exfalso; omega
      case' n6 =>
       have hnkind_5 := hc6
     case' n5 =>
      have hnkind_4 := hc5
      refine br (fun hc7 => ?y7) (fun hc7 => ?n7)
      case' y7 =>
       have hkkind_5 := hc7
      case' n7 =>
       have hnkind_5 := hc7
 all_goals (refine x_ret ?_; simp only [fitsL, fits, C.asD, and_true] <;> (first | (rw [comes_2 hkkind_2]; rfl) | (rw [comes_3 hkkind_3]; rfl) | (rw [comes_6 hkkind_6]; rfl) | (rw [comes_1 hkkind_1]; rfl) | (rw [comes_4 hkkind_4]; rfl) | (rw [comes_5 hkkind_5]; rfl) | (rw [comes_o hnkind_1 hnkind_2 hnkind_3 hnkind_4 hnkind_5 hnkind_6]; rfl)))
end Go.Vm
end
section
namespace Go.Vm
open Go.RowKit Go.Proofs
set_option linter.unusedVariables false
set_option linter.unusedSimpArgs false
set_option maxRecDepth 10000

theorem lensGoes_at (x : LensD) (hx0 : okX x) (hx : rightL x = true) : Contract Tryz.prog 146 [lD x] [.d (.row ((goesL x).map rD))] := by have h := lensGoes_any x hx0; rwa [if_pos hx] at h
theorem lensComes_at (x : LensD) (hx0 : okX x) (hx : rightL x = true) : Contract Tryz.prog 165 [lD x] [.d (.row ((comesL x).map rD))] := by have h := lensComes_any x hx0; rwa [if_pos hx] at h
theorem go9_0 {x : LensD} (h : x.kind = 9) : ((goesL x).map rD)[(0 : Int).toNat]? = some (rD (named x.at_ x.name)) := by rw [goes_9 h]; rfl
theorem go9_1 {x : LensD} (h : x.kind = 9) : ((goesL x).map rD)[(1 : Int).toNat]? = some (rD (named x.at_ x.other)) := by rw [goes_9 h]; rfl
theorem co6_0 {x : LensD} (h : x.kind = 6) : ((comesL x).map rD)[(0 : Int).toNat]? = some (rD (named x.at_ x.name)) := by rw [comes_6 h]; rfl
theorem co6_1 {x : LensD} (h : x.kind = 6) : ((comesL x).map rD)[(1 : Int).toNat]? = some (rD (named x.at_ x.other)) := by rw [comes_6 h]; rfl
theorem co_at {x : LensD} (h : x.kind = 7 ∨ x.kind = 8 ∨ x.kind = 9 ∨ x.kind = 10) : ((comesL x).map rD)[(0 : Int).toNat]? = some (rD x.at_) := by rw [comes_o (by omega) (by omega) (by omega) (by omega) (by omega) (by omega)]; rfl
theorem comes_ne {x : LensD} (h : ¬ x.kind = 3) : comesL x ≠ [] := by
  unfold comesL; simp only [h, if_false]; (repeat' split) <;> simp
theorem co_0 {x : LensD} (h : ¬ x.kind = 3) : ((comesL x).map rD)[(0 : Int).toNat]? = some (rD (comeL x)) := by
  have := comes_ne h
  unfold comeL
  cases hc : comesL x with
  | nil => exact absurd hc this
  | cons c cs => rfl
theorem mul_bound {a b : Int} (h : 0 ≤ a ∧ a ≤ 1048576) (h2 : 0 ≤ b ∧ b ≤ 1000) : -9223372036854775808 ≤ a * b ∧ a * b ≤ 9223372036854775807 := by
  have h3 := Int.mul_nonneg h.1 h2.1
  have h4 : a * b ≤ 1048576 * 1000 := Int.mul_le_mul h.2 h2.2 h2.1 (by omega)
  omega
theorem factor_ok {x : LensD} (hx : rightL x = true) (h : x.kind = 6 ∨ x.kind = 9) : 0 ≤ x.factor ∧ x.factor ≤ 1000 := by
  unfold rightL at hx
  rw [if_neg (by omega), if_neg (show ¬ x.kind = 8 by omega), if_pos h] at hx
  simp only [Bool.and_eq_true, decide_eq_true_eq] at hx
  omega
theorem find_in {l : List FieldD} {r : RefD} (h : (findS l r).2 = 0) : ¬ indexS l r < 0 := by
  intro h'; rw [find_neg h'] at h; simp at h
theorem find_worth {l : List FieldD} {r : RefD} (hl : rightS l = true) (h : (findS l r).2 = 0) : 0 ≤ (findS l r).1.worth ∧ (findS l r).1.worth ≤ 1048576 := by
  have h' := find_in h
  rw [find_pos h']
  exact rightF_worth (rightS_mem hl (fieldAt_spec h').1)
theorem find_ok {l : List FieldD} {r : RefD} (ho : okL l) : (findS l r).1.cases.length ≤ 1000000 := by
  by_cases h : indexS l r < 0
  · rw [find_neg h]; simp [noField]
  · rw [find_pos h]; exact ho.2 _ (fieldAt_spec h).1
theorem arr_2 {l : List FieldD} {x : LensD} (h : x.kind = 2) : arrS l x = ([x.field], true) := by unfold arrS; rw [if_pos h]
theorem arr_3 {l : List FieldD} {x : LensD} (h : x.kind = 3) : arrS l x = ([], decide ((findS l x.field.at_).2 = 0) && decide ((findS l x.field.at_).1 = x.field)) := by unfold arrS; rw [if_neg (by omega), if_pos h]
theorem arr_9 {l : List FieldD} {x : LensD} (h : x.kind = 9) : arrS l x = mergedS l x := by unfold arrS; rw [if_neg (by omega), if_neg (by omega), if_pos h]
theorem arr_no {l : List FieldD} {x : LensD} (h2 : ¬ x.kind = 2) (h3 : ¬ x.kind = 3) (h9 : ¬ x.kind = 9) (hf : ¬ (findS l x.at_).2 = 0) : arrS l x = ([], false) := by unfold arrS; rw [if_neg h2, if_neg h3, if_neg h9, if_pos hf]
theorem arr_6 {l : List FieldD} {x : LensD} (h : x.kind = 6) (hf : (findS l x.at_).2 = 0) : arrS l x = ([⟨named x.at_ x.name, 1, noB, [], (findS l x.at_).1.worth⟩, ⟨named x.at_ x.other, 1, noB, [], (findS l x.at_).1.worth * x.factor⟩], decide ((findS l x.at_).1.kind = 1)) := by
  unfold arrS; rw [if_neg (by omega), if_neg (by omega), if_neg (by omega), if_neg (by omega), if_pos h]
theorem arr_7 {l : List FieldD} {x : LensD} (h : x.kind = 7) (hf : (findS l x.at_).2 = 0) : arrS l x = ([⟨x.at_, 4, noB, [], 0⟩], decide ((findS l x.at_).1.kind = 2) && decide ((findS l x.at_).1.deft = x.other)) := by
  unfold arrS; rw [if_neg (by omega), if_neg (by omega), if_neg (by omega), if_neg (by omega), if_neg (by omega), if_pos h]
theorem arr_10 {l : List FieldD} {x : LensD} (h : x.kind = 10) (hf : (findS l x.at_).2 = 0) : arrS l x = ([⟨x.at_, 2, x.other, [], 0⟩], decide ((findS l x.at_).1.kind = 4)) := by
  unfold arrS; rw [if_neg (by omega), if_neg (by omega), if_neg (by omega), if_neg (by omega), if_neg (by omega), if_neg (by omega), if_pos h]
theorem arr_8 {l : List FieldD} {x : LensD} (h : x.kind = 8) (hf : (findS l x.at_).2 = 0) : arrS l x = ([⟨x.at_, 3, x.other, froms x.back, 0⟩], decide ((findS l x.at_).1 = ⟨x.at_, 3, x.name, froms x.forth, 0⟩)) := by
  unfold arrS; rw [if_neg (by omega), if_neg (by omega), if_neg (by omega), if_neg (by omega), if_neg (by omega), if_neg (by omega), if_neg (by omega), if_pos h]
theorem arr_o {l : List FieldD} {x : LensD} (h : ¬ x.kind = 2 ∧ ¬ x.kind = 3 ∧ ¬ x.kind = 9 ∧ ¬ x.kind = 6 ∧ ¬ x.kind = 7 ∧ ¬ x.kind = 10 ∧ ¬ x.kind = 8) (hf : (findS l x.at_).2 = 0) : arrS l x = ([⟨comeL x, (findS l x.at_).1.kind, (findS l x.at_).1.deft, (findS l x.at_).1.cases, (findS l x.at_).1.worth⟩], true) := by
  unfold arrS; rw [if_neg (by omega), if_neg (by omega), if_neg (by omega), if_neg (by omega), if_neg (by omega), if_neg (by omega), if_neg (by omega), if_neg (by omega)]
theorem pair_and {A : Prop} {a b : Bool} (h1 : A) (h : a = b) : A ∧ D.sc (.bool a) = D.sc (.bool b) := ⟨h1, scb h⟩

set_option maxHeartbeats 1000000 in
theorem merged_any (l : List FieldD) (x : LensD) (ho : okL l) (hx0 : okX x) (hl : rightS l = true) (hx : rightL x = true) (hk : x.kind = 9) : Contract Tryz.prog 164 [.row (l.map fD), lD x] [.d (.row ((mergedS l x).1.map fD)), .d (.sc (.bool ((mergedS l x).2)))] := by
 refine T.fn [] Tryz.func164 ?_
 refine x_call T.en_146 (lensGoes_at _ hx0 hx) ?_
 first | refine x_ix (by first | exact go9_0 (by omega) | exact go9_1 (by omega) | exact co6_0 (by omega) | exact co6_1 (by omega) | exact co_0 (by omega)) ?_ | refine x_ixI (by first | exact go9_0 (by omega) | exact go9_1 (by omega) | exact co6_0 (by omega) | exact co6_1 (by omega) | exact co_0 (by omega)) ?_
 refine x_call T.en_163 (schemaFind_any _ _ ho) ?_
 refine br (fun hg1 => ?y1) (fun hg1 => ?n1)
 case' y1 =>
  refine brT ?_
 case' n1 =>
  have hu0 : (findS l (named x.at_ x.name)).2 = 0 := by simpa using hg1
  refine br (fun hc3 => ?y3) (fun hc3 => ?n3)
  case' n3 =>
   first | refine x_ix (by first | exact go9_0 (by omega) | exact go9_1 (by omega) | exact co6_0 (by omega) | exact co6_1 (by omega) | exact co_0 (by omega)) ?_ | refine x_ixI (by first | exact go9_0 (by omega) | exact go9_1 (by omega) | exact co6_0 (by omega) | exact co6_1 (by omega) | exact co_0 (by omega)) ?_
   refine x_call T.en_163 (schemaFind_any _ _ ho) ?_
   refine br (fun hg4 => ?y4) (fun hg4 => ?n4)
   case' y4 =>
    refine brT ?_
    refine brT ?_
   case' n4 =>
    refine br (fun hg7 => ?y7) (fun hg7 => ?n7)
    case' y7 =>
     refine brT ?_
    case' n7 =>
     first | refine x_bin (pr_mul (wrap64 _ (mul_bound (find_worth hl hu0) (factor_ok hx (.inr hk))))) rfl ?_ | refine x_mul ?_ | refine x_bin rfl rfl ?_
     refine br (fun hc9 => ?y9) (fun hc9 => ?n9)
 all_goals (refine x_ret ?_; simp only [fitsL, fits, C.asD, and_true] <;> (first | (unfold mergedS; simp_all; done) | (have hm : mergedS l x = ([⟨x.at_, 1, noB, [], (findS l (named x.at_ x.name)).1.worth⟩], true) := (by unfold mergedS; simp_all; done); rw [hm]; exact ⟨rfl, rfl⟩)))
end Go.Vm
end
section
namespace Go.Vm
open Go.RowKit Go.Proofs
set_option linter.unusedVariables false
set_option linter.unusedSimpArgs false
set_option maxRecDepth 10000

set_option maxHeartbeats 1000000 in
theorem arrivals_any (l : List FieldD) (x : LensD) (ho : okL l) (hx0 : okX x) (hl : rightS l = true) (hx : rightL x = true) : Contract Tryz.prog 145 [.row (l.map fD), lD x] [.d (.row ((arrS l x).1.map fD)), .d (.sc (.bool ((arrS l x).2)))] := by
 refine T.fn [] Tryz.func145 ?_
 refine br (fun hc1 => ?y1) (fun hc1 => ?n1)
 case' y1 =>
  have hkkind_2 := hc1
  refine x_call T.en_119 (fieldOwn_any _ hx0.1) ?_
 case' n1 =>
  have hnkind_2 := hc1
  refine br (fun hc2 => ?y2) (fun hc2 => ?n2)
  case' y2 =>
   have hkkind_3 := hc2
   refine x_call T.en_163 (schemaFind_any _ _ ho) ?_
   refine br (fun hg3 => ?y3) (fun hg3 => ?n3)
   case' y3 =>
    refine x_call T.en_92 (by first | exact fieldSame_any _ x.field (find_ok ho) | exact fieldSame_any _ ⟨x.at_, 3, x.name, froms x.forth, 0⟩ (find_ok ho)) ?_
  case' n2 =>
   have hnkind_3 := hc2
   refine br (fun hc4 => ?y4) (fun hc4 => ?n4)
   case' y4 =>
    have hkkind_9 := hc4
    refine x_call T.en_164 (merged_any _ _ ho hx0 hl hx (by omega)) ?_
   case' n4 =>
    have hnkind_9 := hc4
    refine x_call T.en_163 (schemaFind_any _ _ ho) ?_
    refine br (fun hc5 => ?y5) (fun hc5 => ?n5)
    case' y5 =>
     have hf1 : ¬ (findS l x.at_).2 = 0 := by simpa using hc5
    case' n5 =>
     have hf0 : (findS l x.at_).2 = 0 := by simpa using hc5
     refine x_call T.en_165 (lensComes_at _ hx0 hx) ?_
     refine br (fun hc6 => ?y6) (fun hc6 => ?n6)
     case' y6 =>
      have hkkind_6 := hc6
      refine And.intro ⟨T.mixed, by decide +kernel⟩ ?_
      first | refine x_ix (by first | exact go9_0 (by omega) | exact go9_1 (by omega) | exact co6_0 (by omega) | exact co6_1 (by omega) | exact co_0 (by omega)) ?_ | refine x_ixI (by first | exact go9_0 (by omega) | exact go9_1 (by omega) | exact co6_0 (by omega) | exact co6_1 (by omega) | exact co_0 (by omega)) ?_
      refine And.intro ⟨T.mixed, by decide +kernel⟩ ?_
      first | refine x_ix (by first | exact go9_0 (by omega) | exact go9_1 (by omega) | exact co6_0 (by omega) | exact co6_1 (by omega) | exact co_0 (by omega)) ?_ | refine x_ixI (by first | exact go9_0 (by omega) | exact go9_1 (by omega) | exact co6_0 (by omega) | exact co6_1 (by omega) | exact co_0 (by omega)) ?_
      first | refine x_bin (pr_mul (wrap64 _ (mul_bound (find_worth hl hf0) (factor_ok hx (by omega))))) rfl ?_ | refine x_mul ?_ | refine x_bin rfl rfl ?_
      refine And.intro ⟨T.mixed, by decide +kernel⟩ ?_
     case' n6 =>
      have hnkind_6 := hc6
      refine br (fun hc7 => ?y7) (fun hc7 => ?n7)
      case' y7 =>
       have hkkind_7 := hc7
       refine And.intro ⟨T.mixed, by decide +kernel⟩ ?_
       refine br (fun hg8 => ?y8) (fun hg8 => ?n8)
      case' n7 =>
       have hnkind_7 := hc7
       refine br (fun hc9 => ?y9) (fun hc9 => ?n9)
       case' y9 =>
        have hkkind_10 := hc9
        refine And.intro ⟨T.mixed, by decide +kernel⟩ ?_
       case' n9 =>
        have hnkind_10 := hc9
        refine br (fun hc10 => ?y10) (fun hc10 => ?n10)
        case' y10 =>
         have hkkind_8 := hc10
         refine And.intro ⟨T.mixed, by decide +kernel⟩ ?_
         refine x_call T.en_166 (froms_any _ (by first | exact hx0.2.1 | exact hx0.2.2)) ?_
         refine And.intro ⟨T.mixed, by decide +kernel⟩ ?_
         refine x_call T.en_166 (froms_any _ (by first | exact hx0.2.1 | exact hx0.2.2)) ?_
         refine And.intro ⟨T.mixed, by decide +kernel⟩ ?_
         refine x_call T.en_92 (by first | exact fieldSame_any _ x.field (find_ok ho) | exact fieldSame_any _ ⟨x.at_, 3, x.name, froms x.forth, 0⟩ (find_ok ho)) ?_
        case' n10 =>
         have hnkind_8 := hc10
         first | refine x_ix (by first | exact go9_0 (by omega) | exact go9_1 (by omega) | exact co6_0 (by omega) | exact co6_1 (by omega) | exact co_0 (by omega)) ?_ | refine x_ixI (by first | exact go9_0 (by omega) | exact go9_1 (by omega) | exact co6_0 (by omega) | exact co6_1 (by omega) | exact co_0 (by omega)) ?_
 all_goals (refine x_ret ?_; simp only [fitsL, fits, C.asD, and_true] <;> (first | (rw [arr_2 hkkind_2]; exact ⟨rfl, rfl⟩) | (rw [arr_3 hkkind_3]; refine pair_and rfl ?_; simp_all; done) | (rw [arr_9 hkkind_9]; exact ⟨rfl, rfl⟩) | (rw [arr_no hnkind_2 hnkind_3 hnkind_9 hf1]; exact ⟨rfl, rfl⟩) | (rw [arr_6 hkkind_6 hf0]; exact ⟨rfl, rfl⟩) | (rw [arr_7 hkkind_7 hf0]; refine pair_and rfl ?_; simp_all; done) | (rw [arr_10 hkkind_10 hf0]; exact ⟨rfl, rfl⟩) | (rw [arr_8 hkkind_8 hf0]; exact ⟨rfl, rfl⟩) | (rw [arr_o (by omega) hf0]; exact ⟨rfl, rfl⟩)))
end Go.Vm
end
section
namespace Go.Vm
open Go.RowKit Go.Proofs
set_option linter.unusedVariables false
set_option linter.unusedSimpArgs false
set_option maxRecDepth 10000

theorem okL_sub {l m : List FieldD} (ho : okL l) (h : m.length ≤ 1000) (hs : ∀ f ∈ m, f ∈ l) : okL m := ⟨h, fun f hf => ho.2 f (hs f hf)⟩
theorem okL_del {l : List FieldD} {r : RefD} (ho : okL l) : okL (delF l r) := okL_sub ho (by have := ho.1; have h := List.length_filter_le (fun f => !decide (f.at_ = r)) l; unfold delF; omega) (fun f hf => (mem_delF.1 hf).1)
theorem okL_nil : okL [] := ⟨by simp, by simp⟩
theorem okL_without {l : List FieldD} {r : RefD} (ho : okL l) : okL (withoutS l r).1 := by
  unfold withoutS
  split
  · exact okL_nil
  split
  · exact okL_nil
  · exact okL_del ho
theorem okL_with {l : List FieldD} {f : FieldD} (ho : okL l) (hf : f.cases.length ≤ 1000000) : okL (withS l f).1 := by
  unfold withS
  split
  · exact okL_nil
  split
  · exact okL_nil
  split
  · exact okL_nil
  · refine ⟨by show (insF l f).length ≤ 1000; rw [length_insF]; omega, fun g hg => ?_⟩
    rcases mem_insF.1 hg with rfl | hg
    · exact hf
    · exact ho.2 g hg
theorem okL_withAll : ∀ {fs l : List FieldD}, okL l → (∀ f ∈ fs, f.cases.length ≤ 1000000) → okL (withAll l fs).1
  | [], l, h, _ => h
  | f :: fs, l, h, hf => by
    unfold withAll
    split
    · exact okL_withAll (okL_with h (hf f (List.mem_cons_self ..))) (fun g hg => hf g (List.mem_cons_of_mem _ hg))
    · exact okL_nil
theorem okL_delAll {rs : List RefD} : ∀ {l : List FieldD}, okL l → okL (delAll l rs) := by
  induction rs with
  | nil => intro l h; exact h
  | cons r rs ih => intro l h; exact ih (okL_del h)
theorem froms_ok {t : List (ByteArray × ByteArray)} (h : t.length ≤ 1000) : (froms t).length ≤ 1000000 := by unfold froms; rw [List.length_map]; omega
theorem news_ok {l : List FieldD} {x : LensD} {fs : List FieldD} (ho : okL l) (hx0 : okX x) (hat : ∀ g ∈ goesL x, ¬ indexS l g < 0) (h : newsL l x = some fs) : ∀ f ∈ fs, f.cases.length ≤ 1000000 := by
  have h1 := hx0.1
  have h2 := froms_ok hx0.2.2
  unfold newsL at h
  split at h
  · injection h with h; subst h; simpa using h1
  split at h
  · split at h
    · injection h with h; subst h; simp
    · cases h
  split at h
  · split at h
    · injection h with h; subst h; simp
    · cases h
  split at h
  · split at h
    · injection h with h; subst h; simp
    · cases h
  split at h
  · split at h
    · injection h with h; subst h; simp
    · cases h
  split at h
  · split at h
    · injection h with h; subst h; simp
    · cases h
  split at h
  · split at h
    · injection h with h; subst h; simpa using h2
    · cases h
  · rename_i q2 q3 q9 q6 q7 q10 q8
    injection h with h; subst h
    have hfa : (fieldAt l x.at_).cases.length ≤ 1000000 := ho.2 _ (fieldAt_spec (hat x.at_ (by rw [goes_o q2 q3 q9]; exact List.mem_singleton.2 rfl))).1
    cases comesL x with
    | nil => simp
    | cons c cs => simpa using hfa
theorem arr_ok {l : List FieldD} {x : LensD} (ho : okL l) (hx0 : okX x) (h : (arrS l x).2 = true) : ∀ f ∈ (arrS l x).1, f.cases.length ≤ 1000000 := by
  have hat : ∀ g ∈ goesL x, ¬ indexS l g < 0 := by
    intro g hg hn
    have := arr_missing (l := l) (x := x) (List.any_eq_true.2 ⟨g, hg, by simpa using hn⟩)
    rw [h] at this; cases this
  have h4 := arr_news hat
  cases hn : newsL l x with
  | none => rw [hn] at h4; simp only at h4; rw [h] at h4; cases h4
  | some fs => rw [hn] at h4; simp only at h4; rw [h4]; exact news_ok ho hx0 hat hn
theorem okL_apply {l : List FieldD} {x : LensD} (ho : okL l) (hx0 : okX x) : okL (applyS l x).1 := by
  unfold applyS
  split
  · exact okL_nil
  split
  · exact okL_nil
  rename_i hg
  have hat : ∀ g ∈ goesL x, ¬ indexS l g < 0 := by simpa using hg
  split
  · exact okL_nil
  · rename_i fs hfs
    exact okL_withAll (okL_delAll ho) (news_ok ho hx0 hat hfs)
theorem drop_at {α : Type} {l : List α} {k : Nat} {p : α} (hp : l[k]? = some p) : l.drop k = p :: l.drop (k + 1) := by
  obtain ⟨hlt, rfl⟩ := List.getElem?_eq_some_iff.1 hp
  exact List.drop_eq_getElem_cons hlt
theorem goes_len (x : LensD) : (goesL x).length ≤ 2 := by unfold goesL; (repeat' split) <;> simp
theorem app_5 {l : List FieldD} {x : LensD} (h : (rightS l && rightL x) = false) : applyS l x = ([], 5) := by unfold applyS; rw [if_pos h]
theorem app_arr {l : List FieldD} {x : LensD} (hl : rightS l = true) (hx : rightL x = true) (h : (arrS l x).2 = false) : applyS l x = ([], 16) := by rw [← applyP_eq]; unfold applyP; rw [hl, hx, if_neg (by simp), if_pos h]
theorem app_del {l : List FieldD} {x : LensD} (hl : rightS l = true) (hx : rightL x = true) (h : (arrS l x).2 = true) (hd : delLoop l (goesL x) = ([], 16)) : applyS l x = ([], 16) := by rw [← applyP_eq]; unfold applyP; rw [hl, hx, if_neg (by simp), h, if_neg (by simp), hd, if_pos (by simp)]
theorem app_with {l m : List FieldD} {x : LensD} (hl : rightS l = true) (hx : rightL x = true) (h : (arrS l x).2 = true) (hd : delLoop l (goesL x) = (m, 0)) : applyS l x = withAll m (arrS l x).1 := by rw [← applyP_eq]; unfold applyP; rw [hl, hx, if_neg (by simp), h, if_neg (by simp), hd, if_neg (by simp)]
theorem delLoop_hit {l : List FieldD} {r : RefD} {rs : List RefD} (h : ¬ (withoutS l r).2 = 0) : delLoop l (r :: rs) = ([], 16) := by unfold delLoop; rw [if_neg h]
theorem delLoop_next {l : List FieldD} {r : RefD} {rs : List RefD} (h : (withoutS l r).2 = 0) : delLoop l (r :: rs) = delLoop (withoutS l r).1 rs := by rw [delLoop, if_pos h]
theorem withAll_hit {l : List FieldD} {f : FieldD} {fs : List FieldD} (h : ¬ (withS l f).2 = 0) : withAll l (f :: fs) = ([], 16) := by rw [withAll, if_neg h]
theorem withAll_next {l : List FieldD} {f : FieldD} {fs : List FieldD} (h : (withS l f).2 = 0) : withAll l (f :: fs) = withAll (withS l f).1 fs := by rw [withAll, if_pos h]
theorem del_end {l m : List FieldD} {rs : List RefD} {k : Nat} (hk : rs.length ≤ k) (h : delLoop l rs = delLoop m (rs.drop k)) : delLoop l rs = (m, 0) := by rw [h, List.drop_eq_nil_of_le hk]; rfl
theorem with_end {l m fs : List FieldD} {k : Nat} (hk : fs.length ≤ k) (h : withAll l fs = withAll m (fs.drop k)) : withAll l fs = (m, 0) := by rw [h, List.drop_eq_nil_of_le hk]; rfl
theorem arr_len (l : List FieldD) (x : LensD) : (arrS l x).1.length ≤ 2 := by unfold arrS mergedS; (repeat' split) <;> simp

set_option maxHeartbeats 1000000 in
theorem apply_any (l : List FieldD) (x : LensD) (ho : okL l) (hx0 : okX x) : Contract Tryz.prog 125 [.row (l.map fD), lD x] [.d (.row ((applyS l x).1.map fD)), .d (.sc (.int .i64 (applyS l x).2))] := by
 refine T.fn [] Tryz.func125 ?_
 have hl0 := ho.1
 refine x_call T.en_144 (schemaRight_any _ ho) ?_
 refine br (fun hg1 => ?y1) (fun hg1 => ?n1)
 case' y1 =>
  refine brT ?_
  have h5 : (rightS l && rightL x) = false := by simp_all
 case' n1 =>
  refine x_call T.en_46 (lensRight_any _ hx0) ?_
  refine br (fun hc3 => ?y3) (fun hc3 => ?n3)
  case' y3 =>
   have h5 : (rightS l && rightL x) = false := by simp_all
  case' n3 =>
   have hg1 : rightS l = true ∧ rightL x = true := by simp_all
   have hl := hg1.1
   have hx := hg1.2
   refine x_call T.en_145 (arrivals_any _ _ ho hx0 hl hx) ?_
   refine br (fun hc4 => ?y4) (fun hc4 => ?n4)
   case' y4 =>
    have har : (arrS l x).2 = false := by simpa using hc4
   case' n4 =>
    have har : (arrS l x).2 = true := by simpa using hc4
    have haok := arr_ok ho hx0 har
    have hgl := goes_len x
    have hal := arr_len l x
    refine x_call T.en_64 (schemaOwn_any _ ho) ?_
    refine x_call T.en_146 (lensGoes_at _ hx0 hx) ?_
    refine x_len ?_
    refine xloopR (fb := []) T.ok (Nat.le_of_ble_eq_true rfl) [6, 33, 34] (fun (s : Nat × List FieldD) => [(35, .c (.d (.sc (.int .i64 ((s.1 : Nat) : Int))))), (8, .c (.d (.row (s.2.map fD))))]) (fun s => s.1 ≤ (goesL x).length ∧ okL s.2 ∧ delLoop l (goesL x) = delLoop s.2 ((goesL x).drop s.1)) (fun s => (goesL x).length - s.1) (0, l) ⟨Nat.zero_le _, ho, rfl⟩ (x_ent (by first | rfl | (simp only [Tr.get]; simp; done)) (x_ent (by first | rfl | (simp only [Tr.get]; simp; done)) trivial)) ?_
    rintro s ⟨hk, hok, hi⟩
    refine br (fun hc5 => ?y5) (fun hc5 => ?n5)
    case' y5 =>
     obtain ⟨p, hp⟩ := elem_at hc5
     have hkl := lt_len hp
     first | refine x_ix (by first | exact mapAt hp | exact mapAt hq) ?_ | refine x_ixI (by first | exact mapAt hp | exact mapAt hq) ?_
     refine x_call T.en_147 (schemaWithout_any _ _ hok) ?_
     refine br (fun hc6 => ?y6) (fun hc6 => ?n6)
     case' y6 =>
      have hc0 : ¬ (withoutS s.2 p).2 = 0 := by simpa using hc6
      have hD : delLoop l (goesL x) = ([], 16) := by rw [hi, drop_at hp]; exact delLoop_hit hc0
     case' n6 =>
      have hc0 : (withoutS s.2 p).2 = 0 := by simpa using hc6
      first | refine x_bin (pr_add1 (by omega)) rfl ?_ | refine x_inc ?_ | refine x_add ?_ | refine x_bin rfl rfl ?_
      refine x_rnd (s.1 + 1, (withoutS s.2 p).1) ⟨lt_len hp, okL_without hok, by rw [hi, drop_at hp]; exact delLoop_next hc0⟩ (by (try dsimp only); have := lt_len hp; (try dsimp only); omega) rfl (x_ent (by first | rfl | (simp only [Tr.get]; simp; done)) (x_ent (by first | rfl | (simp only [Tr.get]; simp; done)) trivial)) rfl
    case' n5 =>
     have hD : delLoop l (goesL x) = (s.2, 0) := del_end (past_end hc5) hi
     refine x_len ?_
     refine xloopR (fb := []) T.ok (Nat.le_of_ble_eq_true rfl) [48, 49] (fun (u : Nat × List FieldD) => [(50, .c (.d (.sc (.int .i64 ((u.1 : Nat) : Int))))), (8, .c (.d (.row (u.2.map fD))))]) (fun u => u.1 ≤ (arrS l x).1.length ∧ okL u.2 ∧ withAll s.2 (arrS l x).1 = withAll u.2 ((arrS l x).1.drop u.1)) (fun u => (arrS l x).1.length - u.1) (0, s.2) ⟨Nat.zero_le _, hok, rfl⟩ (x_ent (by first | rfl | (simp only [Tr.get]; simp; done)) (x_ent (by first | rfl | (simp only [Tr.get]; simp; done)) trivial)) ?_
     rintro u ⟨hk2, hok, hv⟩
     refine br (fun hc7 => ?y7) (fun hc7 => ?n7)
     case' y7 =>
      obtain ⟨q, hq⟩ := elem_at hc7
      have hkl2 := lt_len hq
      first | refine x_ix (by first | exact mapAt hp | exact mapAt hq) ?_ | refine x_ixI (by first | exact mapAt hp | exact mapAt hq) ?_
      refine x_call T.en_148 (schemaWith_any _ _ hok (haok _ (List.mem_of_getElem? hq))) ?_
      refine br (fun hc8 => ?y8) (fun hc8 => ?n8)
      case' y8 =>
       have hw0 : ¬ (withS u.2 q).2 = 0 := by simpa using hc8
       have hW : withAll s.2 (arrS l x).1 = ([], 16) := by rw [hv, drop_at hq]; exact withAll_hit hw0
      case' n8 =>
       have hw0 : (withS u.2 q).2 = 0 := by simpa using hc8
       first | refine x_bin (pr_add1 (by omega)) rfl ?_ | refine x_inc ?_ | refine x_add ?_ | refine x_bin rfl rfl ?_
       refine x_rnd (u.1 + 1, (withS u.2 q).1) ⟨lt_len hq, okL_with hok (haok _ (List.mem_of_getElem? hq)), by rw [hv, drop_at hq]; exact withAll_next hw0⟩ (by (try dsimp only); have := lt_len hq; (try dsimp only); omega) rfl (x_ent (by first | rfl | (simp only [Tr.get]; simp; done)) (x_ent (by first | rfl | (simp only [Tr.get]; simp; done)) trivial)) rfl
     case' n7 =>
      have hW : withAll s.2 (arrS l x).1 = (u.2, 0) := with_end (past_end hc7) hv
 all_goals (refine x_ret ?_; simp only [fitsL, fits, C.asD, and_true] <;> (first | (rw [app_5 h5]; exact ⟨rfl, rfl⟩) | (rw [app_arr hl hx har]; exact ⟨rfl, rfl⟩) | (rw [app_with hl hx har hD, hW]; exact ⟨rfl, rfl⟩) | (rw [app_del hl hx har hD]; exact ⟨rfl, rfl⟩)))
end Go.Vm
end
section
namespace Go.Vm
open Go.RowKit Go.Proofs
set_option linter.unusedVariables false
set_option linter.unusedSimpArgs false
set_option maxRecDepth 10000

theorem right_kind {x : LensD} (h : rightL x = true) : 1 ≤ x.kind ∧ x.kind ≤ 10 := by
  by_cases h1 : x.kind = 2 ∨ x.kind = 3
  · omega
  by_cases h2 : x.kind = 8
  · omega
  by_cases h3 : x.kind = 6 ∨ x.kind = 9
  · omega
  by_cases h4 : x.kind = 7 ∨ x.kind = 10
  · omega
  by_cases h5 : x.kind = 1
  · omega
  by_cases h6 : x.kind = 4
  · omega
  by_cases h7 : x.kind = 5
  · omega
  unfold rightL at h
  rw [if_neg h1, if_neg h2, if_neg h3, if_neg h4, if_neg h5, if_neg h6, if_neg h7] at h
  simp at h
theorem refApp_5 {l : List FieldD} {x : LensD} (h : (rightS l && rightL x) = false) : applyS l x = ([], 5) := app_5 h
theorem refApp_gone {l : List FieldD} {x : LensD} {p : RefD} {k : Nat} (hl : rightS l = true) (hx : rightL x = true) (hp : (goesL x)[k]? = some p) (h : indexS l p < 0) : applyS l x = ([], 16) := by
  unfold applyS; rw [hl, hx, if_neg (by simp), if_pos (List.any_eq_true.2 ⟨p, List.mem_of_getElem? hp, by simpa using h⟩)]
theorem refApp_go {l : List FieldD} {x : LensD} (hl : rightS l = true) (hx : rightL x = true) (hall : ∀ g ∈ goesL x, ¬ indexS l g < 0) : applyS l x = if (refA (delAll l (goesL x)) (at0 (wasL l x)) (at1 (wasL l x)) x).2 = false then ([], 16) else ((refA (delAll l (goesL x)) (at0 (wasL l x)) (at1 (wasL l x)) x).1, 0) := by
  rw [← applyR_eq]; unfold applyR
  rw [hl, hx, if_neg (by simp), if_neg]
  intro h
  obtain ⟨g, hg, h⟩ := List.any_eq_true.1 h
  exact hall g hg (by simpa using h)
theorem app_16 {l m : List FieldD} {x : LensD} {R : List FieldD × Bool} (h : applyS l x = if R.2 = false then ([], 16) else (R.1, 0)) (h2 : R.2 = false) : D.row [] = D.row ((applyS l x).1.map fD) ∧ D.sc (.int .i64 16) = D.sc (.int .i64 (applyS l x).2) := by rw [h, if_pos h2]; exact ⟨rfl, rfl⟩
theorem app_0 {l m : List FieldD} {x : LensD} {R : List FieldD × Bool} (h : applyS l x = if R.2 = false then ([], 16) else (R.1, 0)) (h2 : R.2 = true) (h3 : R.1 = m) : D.row (m.map fD) = D.row ((applyS l x).1.map fD) ∧ D.sc (.int .i64 0) = D.sc (.int .i64 (applyS l x).2) := by rw [h, if_neg (by rw [h2]; simp), ← h3]; exact ⟨rfl, rfl⟩
theorem delAll_next {l : List FieldD} {rs : List RefD} {k : Nat} {p : RefD} (hp : rs[k]? = some p) : delAll l (rs.take (k + 1)) = delF (delAll l (rs.take k)) p := by
  unfold delAll; rw [take_next hp, List.foldl_append]; rfl
theorem without_step {l : List FieldD} {rs : List RefD} {k : Nat} {p : RefD} (hl : rightS l = true) (hnd : rs.Nodup) (hp : rs[k]? = some p) (h : ¬ indexS l p < 0) : (withoutS (delAll l (rs.take k)) p).1 = delAll l (rs.take (k + 1)) := by
  have hr := rightS_delAll (rs := rs.take k) hl
  have h2 : 0 ≤ indexS l p := by omega
  obtain ⟨f, hf, e⟩ := index_pos.1 h2
  have hnot : p ∉ rs.take k := by
    intro hm
    obtain ⟨j, hj, e2⟩ := List.getElem_of_mem hm
    have hjk : j < k := by rw [List.length_take] at hj; omega
    obtain ⟨hlt, e3⟩ := List.getElem?_eq_some_iff.1 hp
    rw [List.getElem_take] at e2
    have := (List.nodup_iff_pairwise_ne.1 hnd)
    rw [List.pairwise_iff_getElem] at this
    exact this j k (by omega) hlt hjk (by rw [e2, e3])
  have h3 : 0 ≤ indexS (delAll l (rs.take k)) p := index_pos.2 ⟨f, mem_delAll.2 ⟨hf, by rw [e]; exact hnot⟩, e⟩
  rw [without_ok hr (by omega), delAll_next hp]
theorem was_next {l : List FieldD} {rs : List RefD} {k : Nat} {p : RefD} (hp : rs[k]? = some p) : (rs.take (k + 1)).map (fieldAt l) = (rs.take k).map (fieldAt l) ++ [fieldAt l p] := by rw [take_next hp]; simp
theorem was_0 {l A : List FieldD} {x : LensD} (hA : A = wasL l x) (h2 : ¬ x.kind = 2) : (A.map fD)[(0 : Int).toNat]? = some (fD (at0 (wasL l x))) := by
  subst hA
  unfold wasL at0
  have : goesL x ≠ [] := by unfold goesL; simp only [h2, if_false]; (repeat' split) <;> simp
  cases h : goesL x with
  | nil => exact absurd h this
  | cons c cs => rfl
theorem was_1 {l A : List FieldD} {x : LensD} (hA : A = wasL l x) (h9 : x.kind = 9) : (A.map fD)[(1 : Int).toNat]? = some (fD (at1 (wasL l x))) := by subst hA; unfold wasL at1; rw [goes_9 h9]; rfl
theorem was_in {l : List FieldD} {x : LensD} (hall : ∀ g ∈ goesL x, ¬ indexS l g < 0) (h2 : ¬ x.kind = 2) : at0 (wasL l x) ∈ l := by
  unfold wasL at0
  have : goesL x ≠ [] := by unfold goesL; simp only [h2, if_false]; (repeat' split) <;> simp
  cases h : goesL x with
  | nil => exact absurd h this
  | cons c cs => exact (fieldAt_spec (hall c (by rw [h]; exact List.mem_cons_self ..))).1
theorem was_worth {l : List FieldD} {x : LensD} (hl : rightS l = true) (hall : ∀ g ∈ goesL x, ¬ indexS l g < 0) (h2 : ¬ x.kind = 2) : 0 ≤ (at0 (wasL l x)).worth ∧ (at0 (wasL l x)).worth ≤ 1048576 := rightF_worth (rightS_mem hl (was_in hall h2))
theorem was_ok {l : List FieldD} {x : LensD} (ho : okL l) (hall : ∀ g ∈ goesL x, ¬ indexS l g < 0) (h2 : ¬ x.kind = 2) : (at0 (wasL l x)).cases.length ≤ 1000000 := ho.2 _ (was_in hall h2)
theorem okL_put {l : List FieldD} {f : FieldD} {b : Bool} (ho : okL l) (hf : f.cases.length ≤ 1000000) : okL (putS l f b).1 := okL_with ho hf
theorem all_next {l : List FieldD} {rs : List RefD} {k : Nat} {p : RefD} (hp : rs[k]? = some p) (h : ∀ g ∈ rs.take k, ¬ indexS l g < 0) (hn : ¬ indexS l p < 0) : ∀ g ∈ rs.take (k + 1), ¬ indexS l g < 0 := by
  intro g hg
  rw [take_next hp, List.mem_append, List.mem_singleton] at hg
  rcases hg with hg | rfl
  · exact h g hg
  · exact hn

set_option maxHeartbeats 1000000 in
theorem moved_any (f : FieldD) (r : RefD) : Contract Tryz.prog 115 [fD f, rD r] [.d (fD ⟨r, f.kind, f.deft, f.cases, f.worth⟩)] := by
 refine T.fn [] Tryz.func115 ?_
 all_goals (refine x_ret ?_; simp only [fitsL, fits, C.asD, and_true] <;> (rfl))

set_option maxHeartbeats 1000000 in
theorem refPut_any (l : List FieldD) (f : FieldD) (b : Bool) (ho : okL l) (hf : f.cases.length ≤ 1000000) : Contract Tryz.prog 114 [.row (l.map fD), fD f, .sc (.bool b)] [.d (.row ((putS l f b).1.map fD)), .d (.sc (.bool ((putS l f b).2)))] := by
 refine T.fn [] Tryz.func114 ?_
 refine x_call T.en_141 (refSchemaWith_any _ _ ho hf) ?_
 refine br (fun hg1 => ?y1) (fun hg1 => ?n1)
 all_goals (refine x_ret ?_; simp only [fitsL, fits, C.asD, and_true] <;> (unfold putS; refine pair_and rfl ?_; simp_all))

set_option maxHeartbeats 1000000 in
theorem refApply_any (l : List FieldD) (x : LensD) (ho : okL l) (hx0 : okX x) : Contract Tryz.prog 62 [.row (l.map fD), lD x] [.d (.row ((applyS l x).1.map fD)), .d (.sc (.int .i64 (applyS l x).2))] := by
 refine T.fn [] Tryz.func62 ?_
 have hl0 := ho.1
 have hgl := goes_len x
 refine x_call T.en_109 (refSchemaRight_any _ ho) ?_
 refine br (fun hg1 => ?y1) (fun hg1 => ?n1)
 case' y1 =>
  refine brT ?_
  have h5 : (rightS l && rightL x) = false := by simp_all
 case' n1 =>
  refine x_call T.en_48 (refLensRight_any _ hx0) ?_
  refine br (fun hc3 => ?y3) (fun hc3 => ?n3)
  case' y3 =>
   have h5 : (rightS l && rightL x) = false := by simp_all
  case' n3 =>
   have hg1 : rightS l = true ∧ rightL x = true := by simp_all
   have hl := hg1.1
   have hx := hg1.2
   refine x_call T.en_110 (refGoes_any _) ?_
   refine xloopR (fb := []) T.ok (Nat.le_of_ble_eq_true rfl) [0, 3, 8] (fun (s : Nat × Nat × List FieldD × List FieldD) => [(9, .c (.d (.sc (.int .i64 ((s.1 : Nat) : Int))))), (7, .c (.own 23 28 (s.2.2.1.map fD))), (6, .c (.d (.row (s.2.2.2.map fD))))]) (fun s => s.1 ≤ (goesL x).length ∧ okL s.2.2.2 ∧ s.2.2.1 = ((goesL x).take s.1).map (fieldAt l) ∧ s.2.2.2 = delAll l ((goesL x).take s.1) ∧ ∀ g ∈ (goesL x).take s.1, ¬ indexS l g < 0) (fun s => (goesL x).length - s.1) (0, 23, [], l) ⟨Nat.zero_le _, ho, rfl, rfl, fun g hg => by simp at hg⟩ (x_ent (by first | rfl | (simp only [Tr.get]; simp; done)) (x_ent (by first | rfl | (simp only [Tr.get]; simp; done)) (x_ent (by first | rfl | (simp only [Tr.get]; simp; done)) trivial))) ?_
   rintro s ⟨hk, hok, hA, hR, hal⟩
   have hAl : s.2.2.1.length ≤ 2 := by rw [hA, List.length_map, List.length_take]; omega
   refine x_len ?_
   refine br (fun hc4 => ?y4) (fun hc4 => ?n4)
   case' y4 =>
    obtain ⟨p, hp⟩ := elem_at hc4
    have hkl := lt_len hp
    first | refine x_ix (by first | exact mapAt hp | exact fieldAt_ix hn | exact was_0 hW (by omega) | exact was_1 hW (by omega) | exact co6_0 (by omega) | exact co6_1 (by omega) | exact co_at (by omega) | exact co_0 (by omega)) ?_ | refine x_ixI (by first | exact mapAt hp | exact fieldAt_ix hn | exact was_0 hW (by omega) | exact was_1 hW (by omega) | exact co6_0 (by omega) | exact co6_1 (by omega) | exact co_at (by omega) | exact co_0 (by omega)) ?_
    refine x_call T.en_111 (refSchemaAt_any _ _ ho.1) ?_
    refine br (fun hc5 => ?y5) (fun hc5 => ?n5)
    case' y5 =>
     have hgone : indexS l p < 0 := by simpa using hc5
    case' n5 =>
     have hn : ¬ indexS l p < 0 := by simpa using hc5
     have hib := index_bound (l := l) (r := p)
     have hi0 : 0 ≤ indexS l p := by omega
     first | refine x_ix (by first | exact mapAt hp | exact fieldAt_ix hn | exact was_0 hW (by omega) | exact was_1 hW (by omega) | exact co6_0 (by omega) | exact co6_1 (by omega) | exact co_at (by omega) | exact co_0 (by omega)) ?_ | refine x_ixI (by first | exact mapAt hp | exact fieldAt_ix hn | exact was_0 hW (by omega) | exact was_1 hW (by omega) | exact co6_0 (by omega) | exact co6_1 (by omega) | exact co_at (by omega) | exact co_0 (by omega)) ?_
     first | refine x_app ?_ (by first | exact strs_wide | exact pairs_wide | exact rs_wide | exact fD_wide | (simp [D.cells])) (hz := by first | exact snoc_map (g := fD) | exact one_map (g := fD) | rfl) | refine x_appN ?_ (by first | exact strs_wide | exact pairs_wide | exact rs_wide | exact fD_wide | (simp [D.cells]))
     first | refine x_ix (by first | exact mapAt hp | exact fieldAt_ix hn | exact was_0 hW (by omega) | exact was_1 hW (by omega) | exact co6_0 (by omega) | exact co6_1 (by omega) | exact co_at (by omega) | exact co_0 (by omega)) ?_ | refine x_ixI (by first | exact mapAt hp | exact fieldAt_ix hn | exact was_0 hW (by omega) | exact was_1 hW (by omega) | exact co6_0 (by omega) | exact co6_1 (by omega) | exact co_at (by omega) | exact co_0 (by omega)) ?_
     refine x_call T.en_112 (refSchemaWithout_any _ _ hok) ?_
     first | refine x_bin (pr_add1 (by omega)) rfl ?_ | refine x_bin (pr_mul (wrap64 _ (mul_bound (was_worth hl hall (by omega)) (factor_ok hx (by omega))))) rfl ?_ | refine x_inc ?_ | refine x_add ?_ | refine x_bin rfl rfl ?_
     refine x_rnd (s.1 + 1, 0, s.2.2.1 ++ [fieldAt l p], (withoutS s.2.2.2 p).1) ⟨lt_len hp, okL_without hok, by rw [hA]; exact (was_next hp).symm, by rw [hR]; exact without_step hl (goes_nodup hx) hp hn, all_next hp hal hn⟩ (by (try dsimp only); have := lt_len hp; (try dsimp only); omega) rfl (x_ent (by first | rfl | (simp only [Tr.get]; simp; done)) (x_ent (by first | rfl | (simp only [Tr.get]; simp; done)) (x_ent (by first | rfl | (simp only [Tr.get]; simp; done)) trivial))) rfl
   case' n4 =>
    have hpe := past_end hc4
    have hall : ∀ g ∈ goesL x, ¬ indexS l g < 0 := by rw [List.take_of_length_le hpe] at hal; exact hal
    have hW : s.2.2.1 = wasL l x := by rw [hA, List.take_of_length_le hpe]; rfl
    have hok2 : okL s.2.2.2 := hok
    have hRe : s.2.2.2 = delAll l (goesL x) := by rw [hR, List.take_of_length_le hpe]
    have hgo := refApp_go hl hx hall
    rw [← hRe] at hgo
    refine x_call T.en_113 (refComes_any _) ?_
    refine br (fun hg6 => ?y6) (fun hg6 => ?n6)
    case' y6 =>
     have hkkind_1 := hg6
     refine brT ?_
     refine brT ?_
     refine And.intro ⟨T.mixed, by decide +kernel⟩ ?_
     first | refine x_ix (by first | exact mapAt hp | exact fieldAt_ix hn | exact was_0 hW (by omega) | exact was_1 hW (by omega) | exact co6_0 (by omega) | exact co6_1 (by omega) | exact co_at (by omega) | exact co_0 (by omega)) ?_ | refine x_ixI (by first | exact mapAt hp | exact fieldAt_ix hn | exact was_0 hW (by omega) | exact was_1 hW (by omega) | exact co6_0 (by omega) | exact co6_1 (by omega) | exact co_at (by omega) | exact co_0 (by omega)) ?_
     first | refine x_ix (by first | exact mapAt hp | exact fieldAt_ix hn | exact was_0 hW (by omega) | exact was_1 hW (by omega) | exact co6_0 (by omega) | exact co6_1 (by omega) | exact co_at (by omega) | exact co_0 (by omega)) ?_ | refine x_ixI (by first | exact mapAt hp | exact fieldAt_ix hn | exact was_0 hW (by omega) | exact was_1 hW (by omega) | exact co6_0 (by omega) | exact co6_1 (by omega) | exact co_at (by omega) | exact co_0 (by omega)) ?_
     refine x_call T.en_115 (moved_any _ _) ?_
     refine x_call T.en_114 (by first | exact refPut_any _ _ _ hok2 (was_ok ho hall (by omega)) | exact refPut_any _ x.field _ hok2 hx0.1 | exact refPut_any _ ⟨named x.at_ x.name, 1, noB, [], (at0 (wasL l x)).worth⟩ _ hok2 (Nat.zero_le _) | exact refPut_any _ ⟨named x.at_ x.other, 1, noB, [], (at0 (wasL l x)).worth * x.factor⟩ _ (okL_put hok2 (Nat.zero_le _)) (Nat.zero_le _) | exact refPut_any _ ⟨x.at_, 4, noB, [], 0⟩ _ hok2 (Nat.zero_le _) | exact refPut_any _ ⟨x.at_, 1, noB, [], (at0 (wasL l x)).worth⟩ _ hok2 (Nat.zero_le _) | exact refPut_any _ ⟨x.at_, 2, x.other, [], 0⟩ _ hok2 (Nat.zero_le _) | exact refPut_any _ ⟨x.at_, 3, x.other, froms x.back, 0⟩ _ hok2 (froms_ok hx0.2.2)) ?_
     refine br (fun hc9 => ?y9) (fun hc9 => ?n9)
     case' y9 =>
      exfalso; omega
     case' n9 =>
      have hnkind_2 := hc9
      refine br (fun hc10 => ?y10) (fun hc10 => ?n10)
      case' y10 =>
       exfalso; omega
      case' n10 =>
       have hnkind_3 := hc10
       refine br (fun hc11 => ?y11) (fun hc11 => ?n11)
       case' y11 =>
        exfalso; omega
       case' n11 =>
        have hnkind_6 := hc11
        refine br (fun hc12 => ?y12) (fun hc12 => ?n12)
        case' y12 =>
         exfalso; omega
        case' n12 =>
         have hnkind_7 := hc12
         refine br (fun hc13 => ?y13) (fun hc13 => ?n13)
         case' y13 =>
          exfalso; omega
         case' n13 =>
          have hnkind_8 := hc13
          refine br (fun hc14 => ?y14) (fun hc14 => ?n14)
          case' y14 =>
           exfalso; omega
          case' n14 =>
           have hnkind_9 := hc14
           refine br (fun hc15 => ?y15) (fun hc15 => ?n15)
           case' y15 =>
            exfalso; omega
           case' n15 =>
            have hnkind_10 := hc15
            refine br (fun hc16 => ?y16) (fun hc16 => ?n16)
            case' y16 =>
             have hbad := hc16
            case' n16 =>
             have hgood := hc16
    case' n6 =>
     have hnkind_1 := hg6
     refine br (fun hg17 => ?y17) (fun hg17 => ?n17)
     case' y17 =>
      have hkkind_4 := hg17
      refine brT ?_
      refine And.intro ⟨T.mixed, by decide +kernel⟩ ?_
      first | refine x_ix (by first | exact mapAt hp | exact fieldAt_ix hn | exact was_0 hW (by omega) | exact was_1 hW (by omega) | exact co6_0 (by omega) | exact co6_1 (by omega) | exact co_at (by omega) | exact co_0 (by omega)) ?_ | refine x_ixI (by first | exact mapAt hp | exact fieldAt_ix hn | exact was_0 hW (by omega) | exact was_1 hW (by omega) | exact co6_0 (by omega) | exact co6_1 (by omega) | exact co_at (by omega) | exact co_0 (by omega)) ?_
      first | refine x_ix (by first | exact mapAt hp | exact fieldAt_ix hn | exact was_0 hW (by omega) | exact was_1 hW (by omega) | exact co6_0 (by omega) | exact co6_1 (by omega) | exact co_at (by omega) | exact co_0 (by omega)) ?_ | refine x_ixI (by first | exact mapAt hp | exact fieldAt_ix hn | exact was_0 hW (by omega) | exact was_1 hW (by omega) | exact co6_0 (by omega) | exact co6_1 (by omega) | exact co_at (by omega) | exact co_0 (by omega)) ?_
      refine x_call T.en_115 (moved_any _ _) ?_
      refine x_call T.en_114 (by first | exact refPut_any _ _ _ hok2 (was_ok ho hall (by omega)) | exact refPut_any _ x.field _ hok2 hx0.1 | exact refPut_any _ ⟨named x.at_ x.name, 1, noB, [], (at0 (wasL l x)).worth⟩ _ hok2 (Nat.zero_le _) | exact refPut_any _ ⟨named x.at_ x.other, 1, noB, [], (at0 (wasL l x)).worth * x.factor⟩ _ (okL_put hok2 (Nat.zero_le _)) (Nat.zero_le _) | exact refPut_any _ ⟨x.at_, 4, noB, [], 0⟩ _ hok2 (Nat.zero_le _) | exact refPut_any _ ⟨x.at_, 1, noB, [], (at0 (wasL l x)).worth⟩ _ hok2 (Nat.zero_le _) | exact refPut_any _ ⟨x.at_, 2, x.other, [], 0⟩ _ hok2 (Nat.zero_le _) | exact refPut_any _ ⟨x.at_, 3, x.other, froms x.back, 0⟩ _ hok2 (froms_ok hx0.2.2)) ?_
      refine br (fun hc19 => ?y19) (fun hc19 => ?n19)
      case' y19 =>
       exfalso; omega
      case' n19 =>
       have hnkind_2 := hc19
       refine br (fun hc20 => ?y20) (fun hc20 => ?n20)
       case' y20 =>
        exfalso; omega
       case' n20 =>
        have hnkind_3 := hc20
        refine br (fun hc21 => ?y21) (fun hc21 => ?n21)
        case' y21 =>
         exfalso; omega
        case' n21 =>
         have hnkind_6 := hc21
         refine br (fun hc22 => ?y22) (fun hc22 => ?n22)
         case' y22 =>
          exfalso; omega
         case' n22 =>
          have hnkind_7 := hc22
          refine br (fun hc23 => ?y23) (fun hc23 => ?n23)
          case' y23 =>
           exfalso; omega
          case' n23 =>
           have hnkind_8 := hc23
           refine br (fun hc24 => ?y24) (fun hc24 => ?n24)
           case' y24 =>
            exfalso; omega
           case' n24 =>
            have hnkind_9 := hc24
            refine br (fun hc25 => ?y25) (fun hc25 => ?n25)
            case' y25 =>
             exfalso; omega
            case' n25 =>
             have hnkind_10 := hc25
             refine br (fun hc26 => ?y26) (fun hc26 => ?n26)
             case' y26 =>
              have hbad := hc26
             case' n26 =>
              have hgood := hc26
     case' n17 =>
      have hnkind_4 := hg17
      refine br (fun hc27 => ?y27) (fun hc27 => ?n27)
      case' y27 =>
       have hkkind_5 := hc27
       refine And.intro ⟨T.mixed, by decide +kernel⟩ ?_
       first | refine x_ix (by first | exact mapAt hp | exact fieldAt_ix hn | exact was_0 hW (by omega) | exact was_1 hW (by omega) | exact co6_0 (by omega) | exact co6_1 (by omega) | exact co_at (by omega) | exact co_0 (by omega)) ?_ | refine x_ixI (by first | exact mapAt hp | exact fieldAt_ix hn | exact was_0 hW (by omega) | exact was_1 hW (by omega) | exact co6_0 (by omega) | exact co6_1 (by omega) | exact co_at (by omega) | exact co_0 (by omega)) ?_
       first | refine x_ix (by first | exact mapAt hp | exact fieldAt_ix hn | exact was_0 hW (by omega) | exact was_1 hW (by omega) | exact co6_0 (by omega) | exact co6_1 (by omega) | exact co_at (by omega) | exact co_0 (by omega)) ?_ | refine x_ixI (by first | exact mapAt hp | exact fieldAt_ix hn | exact was_0 hW (by omega) | exact was_1 hW (by omega) | exact co6_0 (by omega) | exact co6_1 (by omega) | exact co_at (by omega) | exact co_0 (by omega)) ?_
       refine x_call T.en_115 (moved_any _ _) ?_
       refine x_call T.en_114 (by first | exact refPut_any _ _ _ hok2 (was_ok ho hall (by omega)) | exact refPut_any _ x.field _ hok2 hx0.1 | exact refPut_any _ ⟨named x.at_ x.name, 1, noB, [], (at0 (wasL l x)).worth⟩ _ hok2 (Nat.zero_le _) | exact refPut_any _ ⟨named x.at_ x.other, 1, noB, [], (at0 (wasL l x)).worth * x.factor⟩ _ (okL_put hok2 (Nat.zero_le _)) (Nat.zero_le _) | exact refPut_any _ ⟨x.at_, 4, noB, [], 0⟩ _ hok2 (Nat.zero_le _) | exact refPut_any _ ⟨x.at_, 1, noB, [], (at0 (wasL l x)).worth⟩ _ hok2 (Nat.zero_le _) | exact refPut_any _ ⟨x.at_, 2, x.other, [], 0⟩ _ hok2 (Nat.zero_le _) | exact refPut_any _ ⟨x.at_, 3, x.other, froms x.back, 0⟩ _ hok2 (froms_ok hx0.2.2)) ?_
       refine br (fun hc28 => ?y28) (fun hc28 => ?n28)
       case' y28 =>
        exfalso; omega
       case' n28 =>
        have hnkind_2 := hc28
        refine br (fun hc29 => ?y29) (fun hc29 => ?n29)
        case' y29 =>
         exfalso; omega
        case' n29 =>
         have hnkind_3 := hc29
         refine br (fun hc30 => ?y30) (fun hc30 => ?n30)
         case' y30 =>
          exfalso; omega
         case' n30 =>
          have hnkind_6 := hc30
          refine br (fun hc31 => ?y31) (fun hc31 => ?n31)
          case' y31 =>
           exfalso; omega
          case' n31 =>
           have hnkind_7 := hc31
           refine br (fun hc32 => ?y32) (fun hc32 => ?n32)
           case' y32 =>
            exfalso; omega
           case' n32 =>
            have hnkind_8 := hc32
            refine br (fun hc33 => ?y33) (fun hc33 => ?n33)
            case' y33 =>
             exfalso; omega
            case' n33 =>
             have hnkind_9 := hc33
             refine br (fun hc34 => ?y34) (fun hc34 => ?n34)
             case' y34 =>
              exfalso; omega
             case' n34 =>
              have hnkind_10 := hc34
              refine br (fun hc35 => ?y35) (fun hc35 => ?n35)
              case' y35 =>
               have hbad := hc35
              case' n35 =>
               have hgood := hc35
      case' n27 =>
       have hnkind_5 := hc27
       refine br (fun hc36 => ?y36) (fun hc36 => ?n36)
       case' y36 =>
        have hkkind_2 := hc36
        refine x_call T.en_114 (by first | exact refPut_any _ _ _ hok2 (was_ok ho hall (by omega)) | exact refPut_any _ x.field _ hok2 hx0.1 | exact refPut_any _ ⟨named x.at_ x.name, 1, noB, [], (at0 (wasL l x)).worth⟩ _ hok2 (Nat.zero_le _) | exact refPut_any _ ⟨named x.at_ x.other, 1, noB, [], (at0 (wasL l x)).worth * x.factor⟩ _ (okL_put hok2 (Nat.zero_le _)) (Nat.zero_le _) | exact refPut_any _ ⟨x.at_, 4, noB, [], 0⟩ _ hok2 (Nat.zero_le _) | exact refPut_any _ ⟨x.at_, 1, noB, [], (at0 (wasL l x)).worth⟩ _ hok2 (Nat.zero_le _) | exact refPut_any _ ⟨x.at_, 2, x.other, [], 0⟩ _ hok2 (Nat.zero_le _) | exact refPut_any _ ⟨x.at_, 3, x.other, froms x.back, 0⟩ _ hok2 (froms_ok hx0.2.2)) ?_
        refine br (fun hc37 => ?y37) (fun hc37 => ?n37)
        case' y37 =>
         exfalso; omega
        case' n37 =>
         have hnkind_3 := hc37
         refine br (fun hc38 => ?y38) (fun hc38 => ?n38)
         case' y38 =>
          exfalso; omega
         case' n38 =>
          have hnkind_6 := hc38
          refine br (fun hc39 => ?y39) (fun hc39 => ?n39)
          case' y39 =>
           exfalso; omega
          case' n39 =>
           have hnkind_7 := hc39
           refine br (fun hc40 => ?y40) (fun hc40 => ?n40)
           case' y40 =>
            exfalso; omega
           case' n40 =>
            have hnkind_8 := hc40
            refine br (fun hc41 => ?y41) (fun hc41 => ?n41)
            case' y41 =>
             exfalso; omega
            case' n41 =>
             have hnkind_9 := hc41
             refine br (fun hc42 => ?y42) (fun hc42 => ?n42)
             case' y42 =>
              exfalso; omega
             case' n42 =>
              have hnkind_10 := hc42
              refine br (fun hc43 => ?y43) (fun hc43 => ?n43)
              case' y43 =>
               have hbad := hc43
              case' n43 =>
               have hgood := hc43
       case' n36 =>
        have hnkind_2 := hc36
        refine br (fun hc44 => ?y44) (fun hc44 => ?n44)
        case' y44 =>
         have hkkind_3 := hc44
         refine And.intro ⟨T.mixed, by decide +kernel⟩ ?_
         first | refine x_ix (by first | exact mapAt hp | exact fieldAt_ix hn | exact was_0 hW (by omega) | exact was_1 hW (by omega) | exact co6_0 (by omega) | exact co6_1 (by omega) | exact co_at (by omega) | exact co_0 (by omega)) ?_ | refine x_ixI (by first | exact mapAt hp | exact fieldAt_ix hn | exact was_0 hW (by omega) | exact was_1 hW (by omega) | exact co6_0 (by omega) | exact co6_1 (by omega) | exact co_at (by omega) | exact co_0 (by omega)) ?_
         refine x_call T.en_65 (refFieldSame_any _ _ (was_ok ho hall (by omega))) ?_
         refine br (fun hc45 => ?y45) (fun hc45 => ?n45)
         case' y45 =>
          exfalso; omega
         case' n45 =>
          have hnkind_6 := hc45
          refine br (fun hc46 => ?y46) (fun hc46 => ?n46)
          case' y46 =>
           exfalso; omega
          case' n46 =>
           have hnkind_7 := hc46
           refine br (fun hc47 => ?y47) (fun hc47 => ?n47)
           case' y47 =>
            exfalso; omega
           case' n47 =>
            have hnkind_8 := hc47
            refine br (fun hc48 => ?y48) (fun hc48 => ?n48)
            case' y48 =>
             exfalso; omega
            case' n48 =>
             have hnkind_9 := hc48
             refine br (fun hc49 => ?y49) (fun hc49 => ?n49)
             case' y49 =>
              exfalso; omega
             case' n49 =>
              have hnkind_10 := hc49
              refine br (fun hc50 => ?y50) (fun hc50 => ?n50)
              case' y50 =>
               have hbad := hc50
              case' n50 =>
               have hgood := hc50
        case' n44 =>
         have hnkind_3 := hc44
         refine br (fun hc51 => ?y51) (fun hc51 => ?n51)
         case' y51 =>
          have hkkind_6 := hc51
          refine And.intro ⟨T.mixed, by decide +kernel⟩ ?_
          first | refine x_ix (by first | exact mapAt hp | exact fieldAt_ix hn | exact was_0 hW (by omega) | exact was_1 hW (by omega) | exact co6_0 (by omega) | exact co6_1 (by omega) | exact co_at (by omega) | exact co_0 (by omega)) ?_ | refine x_ixI (by first | exact mapAt hp | exact fieldAt_ix hn | exact was_0 hW (by omega) | exact was_1 hW (by omega) | exact co6_0 (by omega) | exact co6_1 (by omega) | exact co_at (by omega) | exact co_0 (by omega)) ?_
          first | refine x_bin (pr_add1 (by omega)) rfl ?_ | refine x_bin (pr_mul (wrap64 _ (mul_bound (was_worth hl hall (by omega)) (factor_ok hx (by omega))))) rfl ?_ | refine x_mul ?_ | refine x_bin rfl rfl ?_
          first | refine x_ix (by first | exact mapAt hp | exact fieldAt_ix hn | exact was_0 hW (by omega) | exact was_1 hW (by omega) | exact co6_0 (by omega) | exact co6_1 (by omega) | exact co_at (by omega) | exact co_0 (by omega)) ?_ | refine x_ixI (by first | exact mapAt hp | exact fieldAt_ix hn | exact was_0 hW (by omega) | exact was_1 hW (by omega) | exact co6_0 (by omega) | exact co6_1 (by omega) | exact co_at (by omega) | exact co_0 (by omega)) ?_
          refine br (fun hg52 => ?y52) (fun hg52 => ?n52)
          case' y52 =>
           refine And.intro ⟨T.mixed, by decide +kernel⟩ ?_
           first | refine x_ix (by first | exact mapAt hp | exact fieldAt_ix hn | exact was_0 hW (by omega) | exact was_1 hW (by omega) | exact co6_0 (by omega) | exact co6_1 (by omega) | exact co_at (by omega) | exact co_0 (by omega)) ?_ | refine x_ixI (by first | exact mapAt hp | exact fieldAt_ix hn | exact was_0 hW (by omega) | exact was_1 hW (by omega) | exact co6_0 (by omega) | exact co6_1 (by omega) | exact co_at (by omega) | exact co_0 (by omega)) ?_
           first | refine x_ix (by first | exact mapAt hp | exact fieldAt_ix hn | exact was_0 hW (by omega) | exact was_1 hW (by omega) | exact co6_0 (by omega) | exact co6_1 (by omega) | exact co_at (by omega) | exact co_0 (by omega)) ?_ | refine x_ixI (by first | exact mapAt hp | exact fieldAt_ix hn | exact was_0 hW (by omega) | exact was_1 hW (by omega) | exact co6_0 (by omega) | exact co6_1 (by omega) | exact co_at (by omega) | exact co_0 (by omega)) ?_
           refine x_call T.en_114 (by first | exact refPut_any _ _ _ hok2 (was_ok ho hall (by omega)) | exact refPut_any _ x.field _ hok2 hx0.1 | exact refPut_any _ ⟨named x.at_ x.name, 1, noB, [], (at0 (wasL l x)).worth⟩ _ hok2 (Nat.zero_le _) | exact refPut_any _ ⟨named x.at_ x.other, 1, noB, [], (at0 (wasL l x)).worth * x.factor⟩ _ (okL_put hok2 (Nat.zero_le _)) (Nat.zero_le _) | exact refPut_any _ ⟨x.at_, 4, noB, [], 0⟩ _ hok2 (Nat.zero_le _) | exact refPut_any _ ⟨x.at_, 1, noB, [], (at0 (wasL l x)).worth⟩ _ hok2 (Nat.zero_le _) | exact refPut_any _ ⟨x.at_, 2, x.other, [], 0⟩ _ hok2 (Nat.zero_le _) | exact refPut_any _ ⟨x.at_, 3, x.other, froms x.back, 0⟩ _ hok2 (froms_ok hx0.2.2)) ?_
           first | refine x_ix (by first | exact mapAt hp | exact fieldAt_ix hn | exact was_0 hW (by omega) | exact was_1 hW (by omega) | exact co6_0 (by omega) | exact co6_1 (by omega) | exact co_at (by omega) | exact co_0 (by omega)) ?_ | refine x_ixI (by first | exact mapAt hp | exact fieldAt_ix hn | exact was_0 hW (by omega) | exact was_1 hW (by omega) | exact co6_0 (by omega) | exact co6_1 (by omega) | exact co_at (by omega) | exact co_0 (by omega)) ?_
           refine x_call T.en_114 (by first | exact refPut_any _ _ _ hok2 (was_ok ho hall (by omega)) | exact refPut_any _ x.field _ hok2 hx0.1 | exact refPut_any _ ⟨named x.at_ x.name, 1, noB, [], (at0 (wasL l x)).worth⟩ _ hok2 (Nat.zero_le _) | exact refPut_any _ ⟨named x.at_ x.other, 1, noB, [], (at0 (wasL l x)).worth * x.factor⟩ _ (okL_put hok2 (Nat.zero_le _)) (Nat.zero_le _) | exact refPut_any _ ⟨x.at_, 4, noB, [], 0⟩ _ hok2 (Nat.zero_le _) | exact refPut_any _ ⟨x.at_, 1, noB, [], (at0 (wasL l x)).worth⟩ _ hok2 (Nat.zero_le _) | exact refPut_any _ ⟨x.at_, 2, x.other, [], 0⟩ _ hok2 (Nat.zero_le _) | exact refPut_any _ ⟨x.at_, 3, x.other, froms x.back, 0⟩ _ hok2 (froms_ok hx0.2.2)) ?_
           refine br (fun hc53 => ?y53) (fun hc53 => ?n53)
           case' y53 =>
            exfalso; omega
           case' n53 =>
            have hnkind_7 := hc53
            refine br (fun hc54 => ?y54) (fun hc54 => ?n54)
            case' y54 =>
             exfalso; omega
            case' n54 =>
             have hnkind_8 := hc54
             refine br (fun hc55 => ?y55) (fun hc55 => ?n55)
             case' y55 =>
              exfalso; omega
             case' n55 =>
              have hnkind_9 := hc55
              refine br (fun hc56 => ?y56) (fun hc56 => ?n56)
              case' y56 =>
               exfalso; omega
              case' n56 =>
               have hnkind_10 := hc56
               refine br (fun hc57 => ?y57) (fun hc57 => ?n57)
               case' y57 =>
                have hbad := hc57
               case' n57 =>
                have hgood := hc57
          case' n52 =>
           refine And.intro ⟨T.mixed, by decide +kernel⟩ ?_
           first | refine x_ix (by first | exact mapAt hp | exact fieldAt_ix hn | exact was_0 hW (by omega) | exact was_1 hW (by omega) | exact co6_0 (by omega) | exact co6_1 (by omega) | exact co_at (by omega) | exact co_0 (by omega)) ?_ | refine x_ixI (by first | exact mapAt hp | exact fieldAt_ix hn | exact was_0 hW (by omega) | exact was_1 hW (by omega) | exact co6_0 (by omega) | exact co6_1 (by omega) | exact co_at (by omega) | exact co_0 (by omega)) ?_
           first | refine x_ix (by first | exact mapAt hp | exact fieldAt_ix hn | exact was_0 hW (by omega) | exact was_1 hW (by omega) | exact co6_0 (by omega) | exact co6_1 (by omega) | exact co_at (by omega) | exact co_0 (by omega)) ?_ | refine x_ixI (by first | exact mapAt hp | exact fieldAt_ix hn | exact was_0 hW (by omega) | exact was_1 hW (by omega) | exact co6_0 (by omega) | exact co6_1 (by omega) | exact co_at (by omega) | exact co_0 (by omega)) ?_
           refine x_call T.en_114 (by first | exact refPut_any _ _ _ hok2 (was_ok ho hall (by omega)) | exact refPut_any _ x.field _ hok2 hx0.1 | exact refPut_any _ ⟨named x.at_ x.name, 1, noB, [], (at0 (wasL l x)).worth⟩ _ hok2 (Nat.zero_le _) | exact refPut_any _ ⟨named x.at_ x.other, 1, noB, [], (at0 (wasL l x)).worth * x.factor⟩ _ (okL_put hok2 (Nat.zero_le _)) (Nat.zero_le _) | exact refPut_any _ ⟨x.at_, 4, noB, [], 0⟩ _ hok2 (Nat.zero_le _) | exact refPut_any _ ⟨x.at_, 1, noB, [], (at0 (wasL l x)).worth⟩ _ hok2 (Nat.zero_le _) | exact refPut_any _ ⟨x.at_, 2, x.other, [], 0⟩ _ hok2 (Nat.zero_le _) | exact refPut_any _ ⟨x.at_, 3, x.other, froms x.back, 0⟩ _ hok2 (froms_ok hx0.2.2)) ?_
           first | refine x_ix (by first | exact mapAt hp | exact fieldAt_ix hn | exact was_0 hW (by omega) | exact was_1 hW (by omega) | exact co6_0 (by omega) | exact co6_1 (by omega) | exact co_at (by omega) | exact co_0 (by omega)) ?_ | refine x_ixI (by first | exact mapAt hp | exact fieldAt_ix hn | exact was_0 hW (by omega) | exact was_1 hW (by omega) | exact co6_0 (by omega) | exact co6_1 (by omega) | exact co_at (by omega) | exact co_0 (by omega)) ?_
           refine x_call T.en_114 (by first | exact refPut_any _ _ _ hok2 (was_ok ho hall (by omega)) | exact refPut_any _ x.field _ hok2 hx0.1 | exact refPut_any _ ⟨named x.at_ x.name, 1, noB, [], (at0 (wasL l x)).worth⟩ _ hok2 (Nat.zero_le _) | exact refPut_any _ ⟨named x.at_ x.other, 1, noB, [], (at0 (wasL l x)).worth * x.factor⟩ _ (okL_put hok2 (Nat.zero_le _)) (Nat.zero_le _) | exact refPut_any _ ⟨x.at_, 4, noB, [], 0⟩ _ hok2 (Nat.zero_le _) | exact refPut_any _ ⟨x.at_, 1, noB, [], (at0 (wasL l x)).worth⟩ _ hok2 (Nat.zero_le _) | exact refPut_any _ ⟨x.at_, 2, x.other, [], 0⟩ _ hok2 (Nat.zero_le _) | exact refPut_any _ ⟨x.at_, 3, x.other, froms x.back, 0⟩ _ hok2 (froms_ok hx0.2.2)) ?_
           refine br (fun hc58 => ?y58) (fun hc58 => ?n58)
           case' y58 =>
            exfalso; omega
           case' n58 =>
            have hnkind_7 := hc58
            refine br (fun hc59 => ?y59) (fun hc59 => ?n59)
            case' y59 =>
             exfalso; omega
            case' n59 =>
             have hnkind_8 := hc59
             refine br (fun hc60 => ?y60) (fun hc60 => ?n60)
             case' y60 =>
              exfalso; omega
             case' n60 =>
              have hnkind_9 := hc60
              refine br (fun hc61 => ?y61) (fun hc61 => ?n61)
              case' y61 =>
               exfalso; omega
              case' n61 =>
               have hnkind_10 := hc61
               refine br (fun hc62 => ?y62) (fun hc62 => ?n62)
               case' y62 =>
                have hbad := hc62
               case' n62 =>
                have hgood := hc62
         case' n51 =>
          have hnkind_6 := hc51
          refine br (fun hc63 => ?y63) (fun hc63 => ?n63)
          case' y63 =>
           have hkkind_7 := hc63
           refine And.intro ⟨T.mixed, by decide +kernel⟩ ?_
           first | refine x_ix (by first | exact mapAt hp | exact fieldAt_ix hn | exact was_0 hW (by omega) | exact was_1 hW (by omega) | exact co6_0 (by omega) | exact co6_1 (by omega) | exact co_at (by omega) | exact co_0 (by omega)) ?_ | refine x_ixI (by first | exact mapAt hp | exact fieldAt_ix hn | exact was_0 hW (by omega) | exact was_1 hW (by omega) | exact co6_0 (by omega) | exact co6_1 (by omega) | exact co_at (by omega) | exact co_0 (by omega)) ?_
           refine br (fun hg64 => ?y64) (fun hg64 => ?n64)
           case' y64 =>
            first | refine x_ix (by first | exact mapAt hp | exact fieldAt_ix hn | exact was_0 hW (by omega) | exact was_1 hW (by omega) | exact co6_0 (by omega) | exact co6_1 (by omega) | exact co_at (by omega) | exact co_0 (by omega)) ?_ | refine x_ixI (by first | exact mapAt hp | exact fieldAt_ix hn | exact was_0 hW (by omega) | exact was_1 hW (by omega) | exact co6_0 (by omega) | exact co6_1 (by omega) | exact co_at (by omega) | exact co_0 (by omega)) ?_
            first | refine x_ix (by first | exact mapAt hp | exact fieldAt_ix hn | exact was_0 hW (by omega) | exact was_1 hW (by omega) | exact co6_0 (by omega) | exact co6_1 (by omega) | exact co_at (by omega) | exact co_0 (by omega)) ?_ | refine x_ixI (by first | exact mapAt hp | exact fieldAt_ix hn | exact was_0 hW (by omega) | exact was_1 hW (by omega) | exact co6_0 (by omega) | exact co6_1 (by omega) | exact co_at (by omega) | exact co_0 (by omega)) ?_
            refine x_call T.en_114 (by first | exact refPut_any _ _ _ hok2 (was_ok ho hall (by omega)) | exact refPut_any _ x.field _ hok2 hx0.1 | exact refPut_any _ ⟨named x.at_ x.name, 1, noB, [], (at0 (wasL l x)).worth⟩ _ hok2 (Nat.zero_le _) | exact refPut_any _ ⟨named x.at_ x.other, 1, noB, [], (at0 (wasL l x)).worth * x.factor⟩ _ (okL_put hok2 (Nat.zero_le _)) (Nat.zero_le _) | exact refPut_any _ ⟨x.at_, 4, noB, [], 0⟩ _ hok2 (Nat.zero_le _) | exact refPut_any _ ⟨x.at_, 1, noB, [], (at0 (wasL l x)).worth⟩ _ hok2 (Nat.zero_le _) | exact refPut_any _ ⟨x.at_, 2, x.other, [], 0⟩ _ hok2 (Nat.zero_le _) | exact refPut_any _ ⟨x.at_, 3, x.other, froms x.back, 0⟩ _ hok2 (froms_ok hx0.2.2)) ?_
            refine br (fun hc65 => ?y65) (fun hc65 => ?n65)
            case' y65 =>
             exfalso; omega
            case' n65 =>
             have hnkind_8 := hc65
             refine br (fun hc66 => ?y66) (fun hc66 => ?n66)
             case' y66 =>
              exfalso; omega
             case' n66 =>
              have hnkind_9 := hc66
              refine br (fun hc67 => ?y67) (fun hc67 => ?n67)
              case' y67 =>
               exfalso; omega
              case' n67 =>
               have hnkind_10 := hc67
               refine br (fun hc68 => ?y68) (fun hc68 => ?n68)
               case' y68 =>
                have hbad := hc68
               case' n68 =>
                have hgood := hc68
           case' n64 =>
            first | refine x_ix (by first | exact mapAt hp | exact fieldAt_ix hn | exact was_0 hW (by omega) | exact was_1 hW (by omega) | exact co6_0 (by omega) | exact co6_1 (by omega) | exact co_at (by omega) | exact co_0 (by omega)) ?_ | refine x_ixI (by first | exact mapAt hp | exact fieldAt_ix hn | exact was_0 hW (by omega) | exact was_1 hW (by omega) | exact co6_0 (by omega) | exact co6_1 (by omega) | exact co_at (by omega) | exact co_0 (by omega)) ?_
            refine x_call T.en_114 (by first | exact refPut_any _ _ _ hok2 (was_ok ho hall (by omega)) | exact refPut_any _ x.field _ hok2 hx0.1 | exact refPut_any _ ⟨named x.at_ x.name, 1, noB, [], (at0 (wasL l x)).worth⟩ _ hok2 (Nat.zero_le _) | exact refPut_any _ ⟨named x.at_ x.other, 1, noB, [], (at0 (wasL l x)).worth * x.factor⟩ _ (okL_put hok2 (Nat.zero_le _)) (Nat.zero_le _) | exact refPut_any _ ⟨x.at_, 4, noB, [], 0⟩ _ hok2 (Nat.zero_le _) | exact refPut_any _ ⟨x.at_, 1, noB, [], (at0 (wasL l x)).worth⟩ _ hok2 (Nat.zero_le _) | exact refPut_any _ ⟨x.at_, 2, x.other, [], 0⟩ _ hok2 (Nat.zero_le _) | exact refPut_any _ ⟨x.at_, 3, x.other, froms x.back, 0⟩ _ hok2 (froms_ok hx0.2.2)) ?_
            refine br (fun hc69 => ?y69) (fun hc69 => ?n69)
            case' y69 =>
             exfalso; omega
            case' n69 =>
             have hnkind_8 := hc69
             refine br (fun hc70 => ?y70) (fun hc70 => ?n70)
             case' y70 =>
              exfalso; omega
             case' n70 =>
              have hnkind_9 := hc70
              refine br (fun hc71 => ?y71) (fun hc71 => ?n71)
              case' y71 =>
               exfalso; omega
              case' n71 =>
               have hnkind_10 := hc71
               refine br (fun hc72 => ?y72) (fun hc72 => ?n72)
               case' y72 =>
                have hbad := hc72
               case' n72 =>
                have hgood := hc72
          case' n63 =>
           have hnkind_7 := hc63
           refine br (fun hc73 => ?y73) (fun hc73 => ?n73)
           case' y73 =>
            have hkkind_8 := hc73
            refine And.intro ⟨T.mixed, by decide +kernel⟩ ?_
            first | refine x_ix (by first | exact mapAt hp | exact fieldAt_ix hn | exact was_0 hW (by omega) | exact was_1 hW (by omega) | exact co6_0 (by omega) | exact co6_1 (by omega) | exact co_at (by omega) | exact co_0 (by omega)) ?_ | refine x_ixI (by first | exact mapAt hp | exact fieldAt_ix hn | exact was_0 hW (by omega) | exact was_1 hW (by omega) | exact co6_0 (by omega) | exact co6_1 (by omega) | exact co_at (by omega) | exact co_0 (by omega)) ?_
            refine br (fun hg74 => ?y74) (fun hg74 => ?n74)
            case' y74 =>
             first | refine x_ix (by first | exact mapAt hp | exact fieldAt_ix hn | exact was_0 hW (by omega) | exact was_1 hW (by omega) | exact co6_0 (by omega) | exact co6_1 (by omega) | exact co_at (by omega) | exact co_0 (by omega)) ?_ | refine x_ixI (by first | exact mapAt hp | exact fieldAt_ix hn | exact was_0 hW (by omega) | exact was_1 hW (by omega) | exact co6_0 (by omega) | exact co6_1 (by omega) | exact co_at (by omega) | exact co_0 (by omega)) ?_
             refine br (fun hg75 => ?y75) (fun hg75 => ?n75)
             case' y75 =>
              first | refine x_ix (by first | exact mapAt hp | exact fieldAt_ix hn | exact was_0 hW (by omega) | exact was_1 hW (by omega) | exact co6_0 (by omega) | exact co6_1 (by omega) | exact co_at (by omega) | exact co_0 (by omega)) ?_ | refine x_ixI (by first | exact mapAt hp | exact fieldAt_ix hn | exact was_0 hW (by omega) | exact was_1 hW (by omega) | exact co6_0 (by omega) | exact co6_1 (by omega) | exact co_at (by omega) | exact co_0 (by omega)) ?_
              refine x_call T.en_117 (refFroms_any _ (by first | exact hx0.2.1 | exact hx0.2.2)) ?_
              refine x_call T.en_116 (refSames_any _ _ (was_ok ho hall (by omega))) ?_
              refine And.intro ⟨T.mixed, by decide +kernel⟩ ?_
              first | refine x_ix (by first | exact mapAt hp | exact fieldAt_ix hn | exact was_0 hW (by omega) | exact was_1 hW (by omega) | exact co6_0 (by omega) | exact co6_1 (by omega) | exact co_at (by omega) | exact co_0 (by omega)) ?_ | refine x_ixI (by first | exact mapAt hp | exact fieldAt_ix hn | exact was_0 hW (by omega) | exact was_1 hW (by omega) | exact co6_0 (by omega) | exact co6_1 (by omega) | exact co_at (by omega) | exact co_0 (by omega)) ?_
              refine x_call T.en_117 (refFroms_any _ (by first | exact hx0.2.1 | exact hx0.2.2)) ?_
              refine x_call T.en_114 (by first | exact refPut_any _ _ _ hok2 (was_ok ho hall (by omega)) | exact refPut_any _ x.field _ hok2 hx0.1 | exact refPut_any _ ⟨named x.at_ x.name, 1, noB, [], (at0 (wasL l x)).worth⟩ _ hok2 (Nat.zero_le _) | exact refPut_any _ ⟨named x.at_ x.other, 1, noB, [], (at0 (wasL l x)).worth * x.factor⟩ _ (okL_put hok2 (Nat.zero_le _)) (Nat.zero_le _) | exact refPut_any _ ⟨x.at_, 4, noB, [], 0⟩ _ hok2 (Nat.zero_le _) | exact refPut_any _ ⟨x.at_, 1, noB, [], (at0 (wasL l x)).worth⟩ _ hok2 (Nat.zero_le _) | exact refPut_any _ ⟨x.at_, 2, x.other, [], 0⟩ _ hok2 (Nat.zero_le _) | exact refPut_any _ ⟨x.at_, 3, x.other, froms x.back, 0⟩ _ hok2 (froms_ok hx0.2.2)) ?_
              refine br (fun hc76 => ?y76) (fun hc76 => ?n76)
              case' y76 =>
               exfalso; omega
              case' n76 =>
               have hnkind_9 := hc76
               refine br (fun hc77 => ?y77) (fun hc77 => ?n77)
               case' y77 =>
                exfalso; omega
               case' n77 =>
                have hnkind_10 := hc77
                refine br (fun hc78 => ?y78) (fun hc78 => ?n78)
                case' y78 =>
                 have hbad := hc78
                case' n78 =>
                 have hgood := hc78
             case' n75 =>
              refine And.intro ⟨T.mixed, by decide +kernel⟩ ?_
              first | refine x_ix (by first | exact mapAt hp | exact fieldAt_ix hn | exact was_0 hW (by omega) | exact was_1 hW (by omega) | exact co6_0 (by omega) | exact co6_1 (by omega) | exact co_at (by omega) | exact co_0 (by omega)) ?_ | refine x_ixI (by first | exact mapAt hp | exact fieldAt_ix hn | exact was_0 hW (by omega) | exact was_1 hW (by omega) | exact co6_0 (by omega) | exact co6_1 (by omega) | exact co_at (by omega) | exact co_0 (by omega)) ?_
              refine x_call T.en_117 (refFroms_any _ (by first | exact hx0.2.1 | exact hx0.2.2)) ?_
              refine x_call T.en_114 (by first | exact refPut_any _ _ _ hok2 (was_ok ho hall (by omega)) | exact refPut_any _ x.field _ hok2 hx0.1 | exact refPut_any _ ⟨named x.at_ x.name, 1, noB, [], (at0 (wasL l x)).worth⟩ _ hok2 (Nat.zero_le _) | exact refPut_any _ ⟨named x.at_ x.other, 1, noB, [], (at0 (wasL l x)).worth * x.factor⟩ _ (okL_put hok2 (Nat.zero_le _)) (Nat.zero_le _) | exact refPut_any _ ⟨x.at_, 4, noB, [], 0⟩ _ hok2 (Nat.zero_le _) | exact refPut_any _ ⟨x.at_, 1, noB, [], (at0 (wasL l x)).worth⟩ _ hok2 (Nat.zero_le _) | exact refPut_any _ ⟨x.at_, 2, x.other, [], 0⟩ _ hok2 (Nat.zero_le _) | exact refPut_any _ ⟨x.at_, 3, x.other, froms x.back, 0⟩ _ hok2 (froms_ok hx0.2.2)) ?_
              refine br (fun hc79 => ?y79) (fun hc79 => ?n79)
              case' y79 =>
               exfalso; omega
              case' n79 =>
               have hnkind_9 := hc79
               refine br (fun hc80 => ?y80) (fun hc80 => ?n80)
               case' y80 =>
                exfalso; omega
               case' n80 =>
                have hnkind_10 := hc80
                refine br (fun hc81 => ?y81) (fun hc81 => ?n81)
                case' y81 =>
                 have hbad := hc81
                case' n81 =>
                 have hgood := hc81
            case' n74 =>
             refine brF ?_
             refine And.intro ⟨T.mixed, by decide +kernel⟩ ?_
             first | refine x_ix (by first | exact mapAt hp | exact fieldAt_ix hn | exact was_0 hW (by omega) | exact was_1 hW (by omega) | exact co6_0 (by omega) | exact co6_1 (by omega) | exact co_at (by omega) | exact co_0 (by omega)) ?_ | refine x_ixI (by first | exact mapAt hp | exact fieldAt_ix hn | exact was_0 hW (by omega) | exact was_1 hW (by omega) | exact co6_0 (by omega) | exact co6_1 (by omega) | exact co_at (by omega) | exact co_0 (by omega)) ?_
             refine x_call T.en_117 (refFroms_any _ (by first | exact hx0.2.1 | exact hx0.2.2)) ?_
             refine x_call T.en_114 (by first | exact refPut_any _ _ _ hok2 (was_ok ho hall (by omega)) | exact refPut_any _ x.field _ hok2 hx0.1 | exact refPut_any _ ⟨named x.at_ x.name, 1, noB, [], (at0 (wasL l x)).worth⟩ _ hok2 (Nat.zero_le _) | exact refPut_any _ ⟨named x.at_ x.other, 1, noB, [], (at0 (wasL l x)).worth * x.factor⟩ _ (okL_put hok2 (Nat.zero_le _)) (Nat.zero_le _) | exact refPut_any _ ⟨x.at_, 4, noB, [], 0⟩ _ hok2 (Nat.zero_le _) | exact refPut_any _ ⟨x.at_, 1, noB, [], (at0 (wasL l x)).worth⟩ _ hok2 (Nat.zero_le _) | exact refPut_any _ ⟨x.at_, 2, x.other, [], 0⟩ _ hok2 (Nat.zero_le _) | exact refPut_any _ ⟨x.at_, 3, x.other, froms x.back, 0⟩ _ hok2 (froms_ok hx0.2.2)) ?_
             refine br (fun hc83 => ?y83) (fun hc83 => ?n83)
             case' y83 =>
              exfalso; omega
             case' n83 =>
              have hnkind_9 := hc83
              refine br (fun hc84 => ?y84) (fun hc84 => ?n84)
              case' y84 =>
               exfalso; omega
              case' n84 =>
               have hnkind_10 := hc84
               refine br (fun hc85 => ?y85) (fun hc85 => ?n85)
               case' y85 =>
                have hbad := hc85
               case' n85 =>
                have hgood := hc85
           case' n73 =>
            have hnkind_8 := hc73
            refine br (fun hc86 => ?y86) (fun hc86 => ?n86)
            case' y86 =>
             have hkkind_9 := hc86
             refine And.intro ⟨T.mixed, by decide +kernel⟩ ?_
             first | refine x_ix (by first | exact mapAt hp | exact fieldAt_ix hn | exact was_0 hW (by omega) | exact was_1 hW (by omega) | exact co6_0 (by omega) | exact co6_1 (by omega) | exact co_at (by omega) | exact co_0 (by omega)) ?_ | refine x_ixI (by first | exact mapAt hp | exact fieldAt_ix hn | exact was_0 hW (by omega) | exact was_1 hW (by omega) | exact co6_0 (by omega) | exact co6_1 (by omega) | exact co_at (by omega) | exact co_0 (by omega)) ?_
             refine br (fun hg87 => ?y87) (fun hg87 => ?n87)
             case' y87 =>
              first | refine x_ix (by first | exact mapAt hp | exact fieldAt_ix hn | exact was_0 hW (by omega) | exact was_1 hW (by omega) | exact co6_0 (by omega) | exact co6_1 (by omega) | exact co_at (by omega) | exact co_0 (by omega)) ?_ | refine x_ixI (by first | exact mapAt hp | exact fieldAt_ix hn | exact was_0 hW (by omega) | exact was_1 hW (by omega) | exact co6_0 (by omega) | exact co6_1 (by omega) | exact co_at (by omega) | exact co_0 (by omega)) ?_
              refine br (fun hg88 => ?y88) (fun hg88 => ?n88)
              case' y88 =>
               first | refine x_ix (by first | exact mapAt hp | exact fieldAt_ix hn | exact was_0 hW (by omega) | exact was_1 hW (by omega) | exact co6_0 (by omega) | exact co6_1 (by omega) | exact co_at (by omega) | exact co_0 (by omega)) ?_ | refine x_ixI (by first | exact mapAt hp | exact fieldAt_ix hn | exact was_0 hW (by omega) | exact was_1 hW (by omega) | exact co6_0 (by omega) | exact co6_1 (by omega) | exact co_at (by omega) | exact co_0 (by omega)) ?_
               first | refine x_ix (by first | exact mapAt hp | exact fieldAt_ix hn | exact was_0 hW (by omega) | exact was_1 hW (by omega) | exact co6_0 (by omega) | exact co6_1 (by omega) | exact co_at (by omega) | exact co_0 (by omega)) ?_ | refine x_ixI (by first | exact mapAt hp | exact fieldAt_ix hn | exact was_0 hW (by omega) | exact was_1 hW (by omega) | exact co6_0 (by omega) | exact co6_1 (by omega) | exact co_at (by omega) | exact co_0 (by omega)) ?_
               first | refine x_bin (pr_add1 (by omega)) rfl ?_ | refine x_bin (pr_mul (wrap64 _ (mul_bound (was_worth hl hall (by omega)) (factor_ok hx (by omega))))) rfl ?_ | refine x_mul ?_ | refine x_bin rfl rfl ?_
               refine And.intro ⟨T.mixed, by decide +kernel⟩ ?_
               first | refine x_ix (by first | exact mapAt hp | exact fieldAt_ix hn | exact was_0 hW (by omega) | exact was_1 hW (by omega) | exact co6_0 (by omega) | exact co6_1 (by omega) | exact co_at (by omega) | exact co_0 (by omega)) ?_ | refine x_ixI (by first | exact mapAt hp | exact fieldAt_ix hn | exact was_0 hW (by omega) | exact was_1 hW (by omega) | exact co6_0 (by omega) | exact co6_1 (by omega) | exact co_at (by omega) | exact co_0 (by omega)) ?_
               first | refine x_ix (by first | exact mapAt hp | exact fieldAt_ix hn | exact was_0 hW (by omega) | exact was_1 hW (by omega) | exact co6_0 (by omega) | exact co6_1 (by omega) | exact co_at (by omega) | exact co_0 (by omega)) ?_ | refine x_ixI (by first | exact mapAt hp | exact fieldAt_ix hn | exact was_0 hW (by omega) | exact was_1 hW (by omega) | exact co6_0 (by omega) | exact co6_1 (by omega) | exact co_at (by omega) | exact co_0 (by omega)) ?_
               refine x_call T.en_114 (by first | exact refPut_any _ _ _ hok2 (was_ok ho hall (by omega)) | exact refPut_any _ x.field _ hok2 hx0.1 | exact refPut_any _ ⟨named x.at_ x.name, 1, noB, [], (at0 (wasL l x)).worth⟩ _ hok2 (Nat.zero_le _) | exact refPut_any _ ⟨named x.at_ x.other, 1, noB, [], (at0 (wasL l x)).worth * x.factor⟩ _ (okL_put hok2 (Nat.zero_le _)) (Nat.zero_le _) | exact refPut_any _ ⟨x.at_, 4, noB, [], 0⟩ _ hok2 (Nat.zero_le _) | exact refPut_any _ ⟨x.at_, 1, noB, [], (at0 (wasL l x)).worth⟩ _ hok2 (Nat.zero_le _) | exact refPut_any _ ⟨x.at_, 2, x.other, [], 0⟩ _ hok2 (Nat.zero_le _) | exact refPut_any _ ⟨x.at_, 3, x.other, froms x.back, 0⟩ _ hok2 (froms_ok hx0.2.2)) ?_
               refine br (fun hc89 => ?y89) (fun hc89 => ?n89)
               case' y89 =>
                exfalso; omega
               case' n89 =>
                have hnkind_10 := hc89
                refine br (fun hc90 => ?y90) (fun hc90 => ?n90)
                case' y90 =>
                 have hbad := hc90
                case' n90 =>
                 have hgood := hc90
              case' n88 =>
               refine And.intro ⟨T.mixed, by decide +kernel⟩ ?_
               first | refine x_ix (by first | exact mapAt hp | exact fieldAt_ix hn | exact was_0 hW (by omega) | exact was_1 hW (by omega) | exact co6_0 (by omega) | exact co6_1 (by omega) | exact co_at (by omega) | exact co_0 (by omega)) ?_ | refine x_ixI (by first | exact mapAt hp | exact fieldAt_ix hn | exact was_0 hW (by omega) | exact was_1 hW (by omega) | exact co6_0 (by omega) | exact co6_1 (by omega) | exact co_at (by omega) | exact co_0 (by omega)) ?_
               first | refine x_ix (by first | exact mapAt hp | exact fieldAt_ix hn | exact was_0 hW (by omega) | exact was_1 hW (by omega) | exact co6_0 (by omega) | exact co6_1 (by omega) | exact co_at (by omega) | exact co_0 (by omega)) ?_ | refine x_ixI (by first | exact mapAt hp | exact fieldAt_ix hn | exact was_0 hW (by omega) | exact was_1 hW (by omega) | exact co6_0 (by omega) | exact co6_1 (by omega) | exact co_at (by omega) | exact co_0 (by omega)) ?_
               refine x_call T.en_114 (by first | exact refPut_any _ _ _ hok2 (was_ok ho hall (by omega)) | exact refPut_any _ x.field _ hok2 hx0.1 | exact refPut_any _ ⟨named x.at_ x.name, 1, noB, [], (at0 (wasL l x)).worth⟩ _ hok2 (Nat.zero_le _) | exact refPut_any _ ⟨named x.at_ x.other, 1, noB, [], (at0 (wasL l x)).worth * x.factor⟩ _ (okL_put hok2 (Nat.zero_le _)) (Nat.zero_le _) | exact refPut_any _ ⟨x.at_, 4, noB, [], 0⟩ _ hok2 (Nat.zero_le _) | exact refPut_any _ ⟨x.at_, 1, noB, [], (at0 (wasL l x)).worth⟩ _ hok2 (Nat.zero_le _) | exact refPut_any _ ⟨x.at_, 2, x.other, [], 0⟩ _ hok2 (Nat.zero_le _) | exact refPut_any _ ⟨x.at_, 3, x.other, froms x.back, 0⟩ _ hok2 (froms_ok hx0.2.2)) ?_
               refine br (fun hc91 => ?y91) (fun hc91 => ?n91)
               case' y91 =>
                exfalso; omega
               case' n91 =>
                have hnkind_10 := hc91
                refine br (fun hc92 => ?y92) (fun hc92 => ?n92)
                case' y92 =>
                 have hbad := hc92
                case' n92 =>
                 have hgood := hc92
             case' n87 =>
              refine brF ?_
              refine And.intro ⟨T.mixed, by decide +kernel⟩ ?_
              first | refine x_ix (by first | exact mapAt hp | exact fieldAt_ix hn | exact was_0 hW (by omega) | exact was_1 hW (by omega) | exact co6_0 (by omega) | exact co6_1 (by omega) | exact co_at (by omega) | exact co_0 (by omega)) ?_ | refine x_ixI (by first | exact mapAt hp | exact fieldAt_ix hn | exact was_0 hW (by omega) | exact was_1 hW (by omega) | exact co6_0 (by omega) | exact co6_1 (by omega) | exact co_at (by omega) | exact co_0 (by omega)) ?_
              first | refine x_ix (by first | exact mapAt hp | exact fieldAt_ix hn | exact was_0 hW (by omega) | exact was_1 hW (by omega) | exact co6_0 (by omega) | exact co6_1 (by omega) | exact co_at (by omega) | exact co_0 (by omega)) ?_ | refine x_ixI (by first | exact mapAt hp | exact fieldAt_ix hn | exact was_0 hW (by omega) | exact was_1 hW (by omega) | exact co6_0 (by omega) | exact co6_1 (by omega) | exact co_at (by omega) | exact co_0 (by omega)) ?_
              refine x_call T.en_114 (by first | exact refPut_any _ _ _ hok2 (was_ok ho hall (by omega)) | exact refPut_any _ x.field _ hok2 hx0.1 | exact refPut_any _ ⟨named x.at_ x.name, 1, noB, [], (at0 (wasL l x)).worth⟩ _ hok2 (Nat.zero_le _) | exact refPut_any _ ⟨named x.at_ x.other, 1, noB, [], (at0 (wasL l x)).worth * x.factor⟩ _ (okL_put hok2 (Nat.zero_le _)) (Nat.zero_le _) | exact refPut_any _ ⟨x.at_, 4, noB, [], 0⟩ _ hok2 (Nat.zero_le _) | exact refPut_any _ ⟨x.at_, 1, noB, [], (at0 (wasL l x)).worth⟩ _ hok2 (Nat.zero_le _) | exact refPut_any _ ⟨x.at_, 2, x.other, [], 0⟩ _ hok2 (Nat.zero_le _) | exact refPut_any _ ⟨x.at_, 3, x.other, froms x.back, 0⟩ _ hok2 (froms_ok hx0.2.2)) ?_
              refine br (fun hc94 => ?y94) (fun hc94 => ?n94)
              case' y94 =>
               exfalso; omega
              case' n94 =>
               have hnkind_10 := hc94
               refine br (fun hc95 => ?y95) (fun hc95 => ?n95)
               case' y95 =>
                have hbad := hc95
               case' n95 =>
                have hgood := hc95
            case' n86 =>
             have hnkind_9 := hc86
             refine br (fun hc96 => ?y96) (fun hc96 => ?n96)
             case' y96 =>
              have hkkind_10 := hc96
              first | refine x_ix (by first | exact mapAt hp | exact fieldAt_ix hn | exact was_0 hW (by omega) | exact was_1 hW (by omega) | exact co6_0 (by omega) | exact co6_1 (by omega) | exact co_at (by omega) | exact co_0 (by omega)) ?_ | refine x_ixI (by first | exact mapAt hp | exact fieldAt_ix hn | exact was_0 hW (by omega) | exact was_1 hW (by omega) | exact co6_0 (by omega) | exact co6_1 (by omega) | exact co_at (by omega) | exact co_0 (by omega)) ?_
              refine And.intro ⟨T.mixed, by decide +kernel⟩ ?_
              first | refine x_ix (by first | exact mapAt hp | exact fieldAt_ix hn | exact was_0 hW (by omega) | exact was_1 hW (by omega) | exact co6_0 (by omega) | exact co6_1 (by omega) | exact co_at (by omega) | exact co_0 (by omega)) ?_ | refine x_ixI (by first | exact mapAt hp | exact fieldAt_ix hn | exact was_0 hW (by omega) | exact was_1 hW (by omega) | exact co6_0 (by omega) | exact co6_1 (by omega) | exact co_at (by omega) | exact co_0 (by omega)) ?_
              refine x_call T.en_114 (by first | exact refPut_any _ _ _ hok2 (was_ok ho hall (by omega)) | exact refPut_any _ x.field _ hok2 hx0.1 | exact refPut_any _ ⟨named x.at_ x.name, 1, noB, [], (at0 (wasL l x)).worth⟩ _ hok2 (Nat.zero_le _) | exact refPut_any _ ⟨named x.at_ x.other, 1, noB, [], (at0 (wasL l x)).worth * x.factor⟩ _ (okL_put hok2 (Nat.zero_le _)) (Nat.zero_le _) | exact refPut_any _ ⟨x.at_, 4, noB, [], 0⟩ _ hok2 (Nat.zero_le _) | exact refPut_any _ ⟨x.at_, 1, noB, [], (at0 (wasL l x)).worth⟩ _ hok2 (Nat.zero_le _) | exact refPut_any _ ⟨x.at_, 2, x.other, [], 0⟩ _ hok2 (Nat.zero_le _) | exact refPut_any _ ⟨x.at_, 3, x.other, froms x.back, 0⟩ _ hok2 (froms_ok hx0.2.2)) ?_
              refine br (fun hc97 => ?y97) (fun hc97 => ?n97)
              case' y97 =>
               have hbad := hc97
              case' n97 =>
               have hgood := hc97
             case' n96 =>
              have hnkind_10 := hc96
              refine brF ?_
 all_goals (refine x_ret ?_; simp only [fitsL, fits, C.asD, and_true] <;> (first | (rw [app_5 h5]; exact ⟨rfl, rfl⟩) | (rw [refApp_gone hl hx hp hgone]; exact ⟨rfl, rfl⟩) | (exfalso; have hrk := right_kind hx; omega) | (clear hW hRe hok2 hall hpe hal hR hA hok hAl hk; generalize at0 (wasL l x) = w at *; generalize at1 (wasL l x) = v at *; generalize s.2.2.2 = R at *; first | (refine app_16 (m := []) hgo ?_; clear hgo; unfold refA; simp_all; done) | (refine app_0 hgo ?_ ?_ <;> (clear hgo; unfold refA; simp_all; done)))))
end Go.Vm
end
section
namespace Go.Vm
open Go.RowKit
set_option linter.unusedVariables false
set_option linter.unusedSimpArgs false

section
variable {P : Program} {N : Nat} {t : Tr} {h : Hp} {o : Oper}

theorem at_map {id : Nat} {es : List (D × D)} (hb : NAM ≤ id) (hm : h id = .mapo es) : envT t h id = .mapo es := by rw [envT_at hb, hm]; rfl
theorem at_free {id : Nat} (hb : NAM ≤ id) (hm : h id = .free) : envT t h id = .free := by rw [envT_at hb, hm]; rfl

theorem x_look {MT KT ET : TypeId} {dom : D → Prop} {x y : Nat} {id d : Nat} {es : List (D × D)} {k z r : D} {K : S → Hp → Prop} (hK : K (.c (.d r)) h) (hm : NAM ≤ id ∧ h id = .mapo es) (hk : KeyOk P KT dom) (hd0 : dom k) (hdom : ∀ p ∈ es, dom p.1) (hT : P.underlying MT = some (.map KT ET)) (hz : zeroD P ET = some z) (hr : ((findD k es 0).map (·.2)).getD z = r)
    (hop : o.op = .lookup MT (.tmp x) (.tmp y) false := by rfl) (hx : vd (envT t h) (.tmp x) = some (.mp id) := by rfl) (hy : vd (envT t h) (.tmp y) = some k := by rfl) (hd : o.dst = some d := by rfl) (hdN : d < N := by exact Nat.le_of_ble_eq_true rfl) :
    ∃ (s : S) (h' : Hp), Step P N o (envT t h) (upd (envT t h') (some d) s) ∧ K s h' :=
  x_fy (y_lookup hop hx (at_map hm.1 hm.2) (namb hm.1) hy hT hk hd0 hdom hz hr hd hdN) hK hd
theorem x_look2 {MT KT ET : TypeId} {dom : D → Prop} {x y : Nat} {id d : Nat} {es : List (D × D)} {k z r : D} {found : Bool} {K : S → Hp → Prop} (hK : K (.tup [.d r, .d (.sc (.bool found))]) h) (hm : NAM ≤ id ∧ h id = .mapo es) (hk : KeyOk P KT dom) (hd0 : dom k) (hdom : ∀ p ∈ es, dom p.1) (hT : P.underlying MT = some (.map KT ET)) (hz : zeroD P ET = some z) (hr : ((findD k es 0).map (·.2)).getD z = r) (hf : (findD k es 0).isSome = found)
    (hop : o.op = .lookup MT (.tmp x) (.tmp y) true := by rfl) (hx : vd (envT t h) (.tmp x) = some (.mp id) := by rfl) (hy : vd (envT t h) (.tmp y) = some k := by rfl) (hd : o.dst = some d := by rfl) (hdN : d < N := by exact Nat.le_of_ble_eq_true rfl) :
    ∃ (s : S) (h' : Hp), Step P N o (envT t h) (upd (envT t h') (some d) s) ∧ K s h' :=
  x_fy (y_lookup2 hop hx (at_map hm.1 hm.2) (namb hm.1) hy hT hk hd0 hdom hz hr hf hd hdN) hK hd
theorem dg_of {ops : Array Oper} {d : Nat} {s : S} (hy : Yield P N o (envT t h) s) (hd : o.dst = some d) (hdN : d < N) (hNB : N ≤ BIG) (hg : guardOk ops o (envT t h) = some true) (hn : nb s = true) (hr : refOk o (envT t h) s = true) (hdr : derefOk ops o (envT t h) = true) : DG P N ops o (envT t h) (.slot (some d) s) := by
  have := dg_yield hg hy hn hr hdr (fun u hu => by rw [hd] at hu; injection hu with hu; exact hu ▸ Nat.lt_of_lt_of_le hdN hNB)
  rwa [hd] at this
theorem q_look {ops : Array Oper} {MT KT ET : TypeId} {dom : D → Prop} {x y : Nat} {id d : Nat} {es : List (D × D)} {k z r : D} {K : S → Prop} (hK : K (.c (.d r))) (hm : NAM ≤ id ∧ h id = .mapo es) (hk : KeyOk P KT dom) (hd0 : dom k) (hdom : ∀ p ∈ es, dom p.1) (hT : P.underlying MT = some (.map KT ET)) (hz : zeroD P ET = some z) (hr : ((findD k es 0).map (·.2)).getD z = r)
    (hop : o.op = .lookup MT (.tmp x) (.tmp y) false := by rfl) (hx : vd (envT t h) (.tmp x) = some (.mp id) := by rfl) (hy : vd (envT t h) (.tmp y) = some k := by rfl) (hd : o.dst = some d := by rfl) (hdN : d < N := by exact Nat.le_of_ble_eq_true rfl) (hNB : N ≤ BIG := by exact Nat.le_of_ble_eq_true rfl) (hg : guardOk ops o (envT t h) = some true := by rfl) :
    ∃ s, DG P N ops o (envT t h) (.slot (some d) s) ∧ K s :=
  ⟨_, dg_of (y_lookup hop hx (at_map hm.1 hm.2) (namb hm.1) hy hT hk hd0 hdom hz hr hd hdN) hd hdN hNB hg rfl rfl (by unfold derefOk addrOf; rw [hop]), hK⟩
theorem q_look2 {ops : Array Oper} {MT KT ET : TypeId} {dom : D → Prop} {x y : Nat} {id d : Nat} {es : List (D × D)} {k z r : D} {found : Bool} {K : S → Prop} (hK : K (.tup [.d r, .d (.sc (.bool found))])) (hm : NAM ≤ id ∧ h id = .mapo es) (hk : KeyOk P KT dom) (hd0 : dom k) (hdom : ∀ p ∈ es, dom p.1) (hT : P.underlying MT = some (.map KT ET)) (hz : zeroD P ET = some z) (hr : ((findD k es 0).map (·.2)).getD z = r) (hf : (findD k es 0).isSome = found)
    (hop : o.op = .lookup MT (.tmp x) (.tmp y) true := by rfl) (hx : vd (envT t h) (.tmp x) = some (.mp id) := by rfl) (hy : vd (envT t h) (.tmp y) = some k := by rfl) (hd : o.dst = some d := by rfl) (hdN : d < N := by exact Nat.le_of_ble_eq_true rfl) (hNB : N ≤ BIG := by exact Nat.le_of_ble_eq_true rfl) (hg : guardOk ops o (envT t h) = some true := by rfl) :
    ∃ s, DG P N ops o (envT t h) (.slot (some d) s) ∧ K s :=
  ⟨_, dg_of (y_lookup2 hop hx (at_map hm.1 hm.2) (namb hm.1) hy hT hk hd0 hdom hz hr hf hd hdN) hd hdN hNB hg rfl rfl (by unfold derefOk addrOf; rw [hop]), hK⟩
theorem x_lenm {T KT ET : TypeId} {x : Nat} {id d n : Nat} {es : List (D × D)} {K : S → Hp → Prop} (hK : K (.c (.d (.sc (.int .i64 n)))) h) (hm : NAM ≤ id ∧ h id = .mapo es) (hT : P.underlying T = some (.map KT ET)) (hn : es.length = n)
    (hop : o.op = .call { callee := .builtin .len, args := #[.tmp x], argTypes := #[T] } := by rfl) (hx : vd (envT t h) (.tmp x) = some (.mp id) := by rfl) (hd : o.dst = some d := by rfl) (hdN : d < N := by exact Nat.le_of_ble_eq_true rfl) :
    ∃ (s : S) (h' : Hp), Step P N o (envT t h) (upd (envT t h') (some d) s) ∧ K s h' :=
  x_fy (y_lenm hop hx (at_map hm.1 hm.2) (namb hm.1) hT hn hd hdN) hK hd
theorem x_range {MT KT ET : TypeId} {x : Nat} {id d n : Nat} {es : List (D × D)} {K : S → Hp → Prop} (hK : K (.iter id n []) h) (hm : NAM ≤ id ∧ h id = .mapo es) (hT : P.underlying MT = some (.map KT ET)) (hn : es.length = n)
    (hop : o.op = .range MT (.tmp x) := by rfl) (hx : vd (envT t h) (.tmp x) = some (.mp id) := by rfl) (hd : o.dst = some d := by rfl) (hdN : d < N := by exact Nat.le_of_ble_eq_true rfl) :
    ∃ (s : S) (h' : Hp), Step P N o (envT t h) (upd (envT t h') (some d) s) ∧ K s h' := by
  subst hn
  exact ⟨_, h, s_range hop hx (at_map hm.1 hm.2) hT hd hdN, hK⟩
theorem x_entry {it id d n i : Nat} {l : List Nat} {es : List (D × D)} {p : D × D} {K : S → Hp → Prop} (hK : K (.tup [.d p.1, .d p.2]) h) (hm : NAM ≤ id ∧ h id = .mapo es) (hn : es.length = n) (hp : es[i]? = some p)
    (hop : o.op = .entry (.tmp it) := by rfl) (hit : t.get it = .iter id n (l ++ [i]) := by rfl) (hi : it < NAM := by exact Nat.le_of_ble_eq_true rfl) (hd : o.dst = some d := by rfl) (hdN : d < N := by exact Nat.le_of_ble_eq_true rfl) :
    ∃ (s : S) (h' : Hp), Step P N o (envT t h) (upd (envT t h') (some d) s) ∧ K s h' :=
  ⟨_, h, s_entry hop (by rw [envT_lt hi]; exact hit) (at_map hm.1 hm.2) hn hp hd hdN, hK⟩
theorem x_put {MT KT ET : TypeId} {dom : D → Prop} {x y z : Nat} {id : Nat} {es es' : List (D × D)} {k v : D} {K : Nat → S → Prop} (hK : K id (.mapo es')) (hm : NAM ≤ id ∧ h id = .mapo es) (hk : KeyOk P KT dom) (hd0 : dom k) (hdom : ∀ p ∈ es, dom p.1) (hT : P.underlying MT = some (.map KT ET)) (hes : putD k v es = es')
    (hop : o.op = .mapUpdate MT (.tmp x) (.tmp y) (.tmp z) := by rfl) (hx : vd (envT t h) (.tmp x) = some (.mp id) := by rfl) (hy : vd (envT t h) (.tmp y) = some k := by rfl) (hz : vd (envT t h) (.tmp z) = some v := by rfl) (hd : o.dst = none := by rfl) :
    ∃ (id : Nat) (s : S), (NAM ≤ id ∧ Step P N o (envT t h) (upd (envT t h) (some id) (nameS s))) ∧ K id s :=
  ⟨id, .mapo es', ⟨hm.1, s_mapUpdate hop hx (at_map hm.1 hm.2) hy hz hT hk hd0 hdom hes hd⟩, hK⟩
theorem x_mkmap {MT : TypeId} {d : Nat} {K : S → Hp → Prop} (n : Nat) (hK : K (.c (.d (.mp n))) (hset h n (.mapo []))) (hm : NAM ≤ n ∧ h n = .free) (hop : o.op = .makeMap MT none := by rfl) (hd : o.dst = some d := by rfl) (hdN : d < N := by exact Nat.le_of_ble_eq_true rfl) (hNB : N ≤ BIG := by exact Nat.le_of_ble_eq_true rfl) :
    ∃ (s : S) (h' : Hp), Step P N o (envT t h) (upd (envT t h') (some d) s) ∧ K s h' := by
  refine ⟨_, _, ?_, hK⟩
  unfold hset
  rw [envT_name hm.1]
  exact s_makeMap hop (at_free hm.1 hm.2) hd hdN (by have := namb hm.1; omega)
theorem x_newbox {T : TypeId} {x : Nat} {d : Nat} {r : D} {cs : List D} {K : S → Hp → Prop} (n : Nat) (hK : K (.c (.d (.ptr n 0))) (hset h n (.obj cs))) (hm : NAM ≤ n ∧ h n = .free) (hc : r.cells = cs := by rfl) (hop : o.op = .box T (.tmp x) := by rfl) (hx : vd (envT t h) (.tmp x) = some r := by rfl) (hd : o.dst = some d := by rfl) (hdN : d < N := by exact Nat.le_of_ble_eq_true rfl) (hNB : N ≤ BIG := by exact Nat.le_of_ble_eq_true rfl) :
    ∃ (s : S) (h' : Hp), Step P N o (envT t h) (upd (envT t h') (some d) s) ∧ K s h' := by
  subst hc
  refine ⟨_, _, ?_, hK⟩
  unfold hset
  rw [envT_name hm.1]
  exact s_new_box hop hx (at_free hm.1 hm.2) hd hdN (by have := namb hm.1; omega)
theorem x_newalloc {T : TypeId} {d : Nat} {cs : List D} {K : S → Hp → Prop} (n : Nat) (hK : K (.c (.d (.ptr n 0))) (hset h n (.obj cs))) (hm : NAM ≤ n ∧ h n = .free) (hz : zeroOf P T = some cs) (hop : o.op = .alloc T := by rfl) (hd : o.dst = some d := by rfl) (hdN : d < N := by exact Nat.le_of_ble_eq_true rfl) (hNB : N ≤ BIG := by exact Nat.le_of_ble_eq_true rfl) :
    ∃ (s : S) (h' : Hp), Step P N o (envT t h) (upd (envT t h') (some d) s) ∧ K s h' := by
  refine ⟨_, _, ?_, hK⟩
  unfold hset
  rw [envT_name hm.1]
  exact s_new_alloc hop hz (at_free hm.1 hm.2) hd hdN (by have := namb hm.1; omega)
/-- What stands at names behind a call. -/
def hpost (h : Hp) : List (Nat × S) → Hp
  | [] => h
  | (n, s) :: l => hset (hpost h l) n s
theorem hpost_find : ∀ (l : List (Nat × S)) (h : Hp) (u : Nat), hpost h l u = match l.find? fun p => p.1 == u with | some p => p.2 | none => h u
  | [], h, u => rfl
  | (n, s) :: l, h, u => by
    simp only [hpost, hset, List.find?_cons]
    by_cases e : u = n
    · subst e; simp
    · have : (n == u) = false := by simpa using fun h => e h.symm
      simp only [if_neg e, this]; exact hpost_find l h u
/-- The names that a call is told of, and what stands there. -/
def preOk (h : Hp) : List (Nat × S) → Prop
  | [] => True
  | (n, s) :: l => (NAM ≤ n ∧ h n = s) ∧ preOk h l
theorem preOk_spec : ∀ {pre : List (Nat × S)}, preOk h pre → ∀ p ∈ pre, NAM ≤ p.1 ∧ h p.1 = p.2
  | [], _, p, hp => by cases hp
  | (n, s) :: l, ⟨h1, h2⟩, p, hp => by
    rcases List.mem_cons.1 hp with rfl | hp
    · exact h1
    · exact preOk_spec h2 p hp
theorem setH_env {pre post : List (Nat × S)} (hpre : preOk h pre) (hq : ∀ p ∈ post, live p.2 = true ∧ nameIn pre p.1 = true) (hall : ∀ p ∈ pre, nameIn post p.1 = true) : setH pre post (envT t h) = envT t (hpost h post) := by
  have hp := preOk_spec hpre
  have hbig : ∀ p ∈ post, NAM ≤ p.1 := fun p hm => by
    obtain ⟨s, hs⟩ := nameIn_mem (hq p hm).2
    exact (hp _ hs).1
  funext u
  unfold setH
  by_cases hu : u < NAM
  · have h1 : (post.find? fun p => p.1 == u) = none := by
      rw [List.find?_eq_none]; intro p hm; have := hbig p hm; simp only [beq_iff_eq]; omega
    have h2 : nameIn pre u = false := by
      unfold nameIn
      rw [List.any_eq_false]
      intro p hm; have := (hp p hm).1; simp only [beq_iff_eq]; omega
    rw [h1, h2, envT_lt hu, envT_lt hu]; rfl
  · have hge : NAM ≤ u := by omega
    have e2 : envT t (hpost h post) u = nameS (hpost h post u) := envT_at hge
    rw [e2, hpost_find]
    cases hf : post.find? fun p => p.1 == u with
    | some p =>
      have hl := (hq p (List.mem_of_find?_eq_some hf)).1
      simp only
      cases hs : p.2 <;> rw [hs] at hl <;> first | rfl | cases hl
    | none =>
      simp only
      have h2 : nameIn pre u = false := by
        cases h3 : nameIn pre u with
        | false => rfl
        | true =>
          obtain ⟨s, hs⟩ := nameIn_mem h3
          have h4 := hall _ hs
          obtain ⟨s', hs'⟩ := nameIn_mem h4
          have := List.find?_eq_none.1 hf _ hs'
          simp at this
      rw [h2, envT_at hge]; rfl
theorem pre_env {pre : List (Nat × S)} (hpre : preOk h pre) (hl : ∀ p ∈ pre, live p.2 = true ∨ p.2 = .free) : ∀ p ∈ pre, envT t h p.1 = p.2 ∧ (live p.2 = true ∨ p.2 = .free) := by
  intro p hm
  refine ⟨?_, hl p hm⟩
  obtain ⟨h1, h2⟩ := preOk_spec hpre p hm
  rw [envT_at h1, h2]
  rcases hl p hm with h3 | h3
  · cases hs : p.2 <;> rw [hs] at h3 <;> first | rfl | cases h3
  · rw [h3]; rfl
theorem post_big {pre post : List (Nat × S)} (hpre : preOk h pre) (hq : ∀ p ∈ post, live p.2 = true ∧ nameIn pre p.1 = true) : ∀ p ∈ post, live p.2 = true ∧ nameIn pre p.1 = true ∧ BIG ≤ p.1 := fun p hm => by
  obtain ⟨s, hs⟩ := nameIn_mem (hq p hm).2
  exact ⟨(hq p hm).1, (hq p hm).2, namb (preOk_spec hpre _ hs).1⟩
theorem x_callH {f : FuncId} {xs : Array Operand} {ts : Array TypeId} {ds : List D} {res : List C} {d : Nat} {pre post : List (Nat × S)} {K : S → Hp → Prop} (he : enters P f = true) (hc : ContractH P f ds pre res post) (hK : K (resS (res.map (setTok d))) (hpost h post)) (hpre : preOk h pre)
    (hl : ∀ p ∈ pre, live p.2 = true ∨ p.2 = .free := by simp [live]) (hq : ∀ p ∈ post, live p.2 = true ∧ nameIn pre p.1 = true := by simp [live, nameIn]) (hall : ∀ p ∈ pre, nameIn post p.1 = true := by simp [nameIn])
    (hop : o.op = .call { callee := .value (.func f), args := xs, argTypes := ts } := by rfl) (hx : vargs (envT t h) xs.toList = some ds := by rfl) (hd : o.dst = some d := by rfl) (hdN : d < N := by exact Nat.le_of_ble_eq_true rfl) (hNB : N ≤ BIG := by exact Nat.le_of_ble_eq_true rfl) :
    ∃ (s : S) (h' : Hp), Step P N o (envT t h) (upd (envT t h') (some d) s) ∧ K s h' := by
  refine ⟨_, _, ?_, hK⟩
  have := s_callH (N := N) (env := envT t h) hop he hx hc (pre_env hpre hl) (post_big hpre hq) hd hdN hNB
  rwa [setH_env hpre hq hall] at this
/-- A call of which it is only known that it makes one of those x. -/
theorem x_callE {α : Type} {R : α → Prop} {f : FuncId} {xs : Array Operand} {ts : Array TypeId} {ds : List D} {res : α → List C} {d : Nat} {pre : List (Nat × S)} {post : α → List (Nat × S)} {K : Tr → Hp → Prop} (he : enters P f = true) (hc : ContractE P f ds pre R res post)
    (hK : ∀ x, R x → setK 20 t d (resS ((res x).map (setTok d))) fun t' => K t' (hpost h (post x))) (hpre : preOk h pre)
    (hl : ∀ p ∈ pre, live p.2 = true ∨ p.2 = .free := by simp [live]) (hq : ∀ x, R x → ∀ p ∈ post x, live p.2 = true ∧ nameIn pre p.1 = true := by simp [live, nameIn]) (hall : ∀ x, R x → ∀ p ∈ pre, nameIn (post x) p.1 = true := by simp [nameIn])
    (hop : o.op = .call { callee := .value (.func f), args := xs, argTypes := ts } := by rfl) (hx : vargs (envT t h) xs.toList = some ds := by rfl) (hd : o.dst = some d := by rfl) (hdN : d < N := by exact Nat.le_of_ble_eq_true rfl) (hNB : N ≤ BIG := by exact Nat.le_of_ble_eq_true rfl) :
    StepP P N o (envT t h) fun e => ∃ (t' : Tr) (h' : Hp), e = envT t' h' ∧ K t' h' := by
  intro base w0 ro0 a w hs K' Q hK'
  refine s_callE (N := N) (env := envT t h) hop he hx hc (pre_env hpre hl) (fun x hx => post_big hpre (hq x hx)) hd hdN hNB base w0 ro0 a w hs K' Q ?_
  rintro e a' w' ⟨x, hxR, rfl⟩ hs'
  obtain ⟨t', h3, h4⟩ := setK_spec (hK x hxR)
  refine hK' _ a' w' ⟨t', _, rfl, h4⟩ ?_
  rw [envT_set (nam (Nat.lt_of_lt_of_le hdN hNB)) h3, ← setH_env hpre (hq x hxR) (hall x hxR)]
  exact hs'
theorem hset_self {h : Hp} {n : Nat} {s : S} (e : h n = s) : hset h n s = h := by
  funext u; simp only [hset]; split
  · rename_i e2; rw [e2, e]
  · rfl
theorem hset_hset (h : Hp) (n : Nat) (a b : S) : hset (hset h n a) n b = hset h n b := by
  funext u; simp only [hset]; split <;> rfl
theorem hpost_self : ∀ {pre : List (Nat × S)}, preOk h pre → hpost h pre = h
  | [], _ => rfl
  | (n, s) :: l, hp => by
    simp only [hpost]
    rw [hpost_self hp.2]
    exact hset_self hp.1.2
/-- A call that only reads. -/
theorem x_callR {f : FuncId} {xs : Array Operand} {ts : Array TypeId} {ds : List D} {res : List C} {d : Nat} {pre : List (Nat × S)} {K : S → Hp → Prop} (he : enters P f = true) (hc : ContractH P f ds pre res pre) (hK : K (resS (res.map (setTok d))) h) (hpre : preOk h pre)
    (hl : ∀ p ∈ pre, live p.2 = true := by simp [live])
    (hop : o.op = .call { callee := .value (.func f), args := xs, argTypes := ts } := by rfl) (hx : vargs (envT t h) xs.toList = some ds := by rfl) (hd : o.dst = some d := by rfl) (hdN : d < N := by exact Nat.le_of_ble_eq_true rfl) (hNB : N ≤ BIG := by exact Nat.le_of_ble_eq_true rfl) :
    ∃ (s : S) (h' : Hp), Step P N o (envT t h) (upd (envT t h') (some d) s) ∧ K s h' := by
  have hin : ∀ p ∈ pre, nameIn pre p.1 = true := fun p hp => List.any_eq_true.2 ⟨p, hp, by simp⟩
  exact x_callH he hc (by rw [hpost_self hpre]; exact hK) hpre (fun p hp => .inl (hl p hp)) (fun p hp => ⟨hl p hp, hin p hp⟩) hin hop hx hd hdN hNB
end
end Go.Vm
end
section
namespace Go.Vm
open Go.RowKit
set_option linter.unusedVariables false
set_option linter.unusedSimpArgs false

structure TagD where
  r : Int
  n : Int
  deriving DecidableEq
def noTag : TagD := ⟨0, 0⟩
structure EdgeD where
  id : TagD
  parent : TagD
  lens : LensD
  deriving DecidableEq
structure NodeD where
  edge : EdgeD
  state : Int
  schema : List FieldD
  depth : Int
  deriving DecidableEq
def tD (t : TagD) : D := .agg [.sc (.int .i64 t.r), .sc (.int .i64 t.n)]
def lensC (x : LensD) : List D := [.sc (.int .i64 x.kind), .sc (.int .i64 x.at_.scope), .sc (.string x.at_.group), .sc (.string x.at_.name), .sc (.string x.name), .sc (.string x.other), .sc (.int .i64 x.factor),
  .sc (.int .i64 x.field.at_.scope), .sc (.string x.field.at_.group), .sc (.string x.field.at_.name), .sc (.int .i64 x.field.kind), .sc (.string x.field.deft), .row (x.field.cases.map strD), .sc (.int .i64 x.field.worth), .row (x.forth.map pairD), .row (x.back.map pairD)]
def edgeC (e : EdgeD) : List D := .sc (.int .i64 e.id.r) :: .sc (.int .i64 e.id.n) :: .sc (.int .i64 e.parent.r) :: .sc (.int .i64 e.parent.n) :: lensC e.lens
def eD (e : EdgeD) : D := .agg (edgeC e)
def nodeC (n : NodeD) : List D := .sc (.int .i64 n.edge.id.r) :: .sc (.int .i64 n.edge.id.n) :: .sc (.int .i64 n.edge.parent.r) :: .sc (.int .i64 n.edge.parent.n) :: 
  [.sc (.int .i64 n.edge.lens.kind), .sc (.int .i64 n.edge.lens.at_.scope), .sc (.string n.edge.lens.at_.group), .sc (.string n.edge.lens.at_.name), .sc (.string n.edge.lens.name), .sc (.string n.edge.lens.other), .sc (.int .i64 n.edge.lens.factor),
  .sc (.int .i64 n.edge.lens.field.at_.scope), .sc (.string n.edge.lens.field.at_.group), .sc (.string n.edge.lens.field.at_.name), .sc (.int .i64 n.edge.lens.field.kind), .sc (.string n.edge.lens.field.deft), .row (n.edge.lens.field.cases.map strD), .sc (.int .i64 n.edge.lens.field.worth), .row (n.edge.lens.forth.map pairD), .row (n.edge.lens.back.map pairD),
  .sc (.int .i64 n.state), .row (n.schema.map fD), .sc (.int .i64 n.depth)]
def nD (n : NodeD) : D := .agg (nodeC n)
theorem lD_cells (x : LensD) : lD x = .agg (lensC x) := rfl
def noEdge : EdgeD := ⟨noTag, noTag, noLens⟩
def noNode : NodeD := ⟨noEdge, 0, [], 0⟩

theorem tD_inj {a b : TagD} (h : tD a = tD b) : a = b := by
  obtain ⟨a1, a2⟩ := a
  obtain ⟨b1, b2⟩ := b
  simp [tD] at h
  simp [h]
theorem fst_map {α β : Type} {f : α → D} {g : β → D} {l : List (α × β)} : ∀ p ∈ l.map (fun p => (f p.1, g p.2)), ∃ t, p.1 = f t := by
  intro p hp
  obtain ⟨q, _, rfl⟩ := List.mem_map.1 hp
  exact ⟨q.1, rfl⟩

/-- A list of pairs, as a map. -/
def findT {β : Type} (k : TagD) : List (TagD × β) → Option β
  | [] => none
  | p :: l => if k = p.1 then some p.2 else findT k l
def putT {β : Type} (k : TagD) (v : β) : List (TagD × β) → List (TagD × β)
  | [] => [(k, v)]
  | p :: l => if k = p.1 then (k, v) :: l else p :: putT k v l
theorem findT_map {β : Type} {g : β → D} (k : TagD) : ∀ (l : List (TagD × β)) (i : Nat), (findD (tD k) (l.map fun p => (tD p.1, g p.2)) i).map (·.2) = (findT k l).map g
  | [], _ => rfl
  | p :: l, i => by
    simp only [List.map_cons, findD, findT]
    by_cases e : k = p.1
    · rw [if_pos e, if_pos (by rw [e])]; rfl
    · rw [if_neg e, if_neg (fun h => e (tD_inj h))]; exact findT_map k l (i + 1)
theorem findT_some {β : Type} {g : β → D} (k : TagD) : ∀ (l : List (TagD × β)) (i : Nat), (findD (tD k) (l.map fun p => (tD p.1, g p.2)) i).isSome = (findT k l).isSome := by
  intro l i
  have := findT_map (g := g) k l i
  cases h1 : findD (tD k) (l.map fun p => (tD p.1, g p.2)) i <;> cases h2 : findT k l <;> simp [h1, h2] at this ⊢
theorem putT_map {β : Type} {g : β → D} (k : TagD) (v : β) : ∀ (l : List (TagD × β)), putD (tD k) (g v) (l.map fun p => (tD p.1, g p.2)) = (putT k v l).map fun p => (tD p.1, g p.2)
  | [] => rfl
  | p :: l => by
    simp only [List.map_cons, putD, putT]
    by_cases e : k = p.1
    · rw [if_pos e, if_pos (by rw [e])]; rfl
    · rw [if_neg e, if_neg (fun h => e (tD_inj h)), List.map_cons, putT_map k v l]

/-! ### What the chapter says -/
def tagB (t : TagD) : Bool := decide (1 ≤ t.r) && decide (t.r ≤ 6) && decide (1 ≤ t.n) && decide (t.n ≤ 1099511627776)
def lessT (a b : TagD) : Bool := if a.r = b.r then decide (a.n < b.n) else decide (a.r < b.r)
def edgeB (e : EdgeD) : Bool := tagB e.id && (decide (e.parent = noTag) || (tagB e.parent && !decide (e.parent = e.id))) && (decide (1 ≤ e.lens.kind) && decide (e.lens.kind ≤ 8) && rightL e.lens)
def okE (e : EdgeD) : Prop := okX e.lens
/-- The schema at the root. -/
def rootS : List FieldD := [⟨⟨0, noB, ⟨#[99, 111, 117, 112, 111, 110]⟩⟩, 2, noB, [], 0⟩, ⟨⟨1, noB, ⟨#[110, 111, 116, 101]⟩⟩, 2, noB, [], 0⟩, ⟨⟨1, noB, ⟨#[113, 116, 121]⟩⟩, 1, noB, [], 1⟩, ⟨⟨1, noB, ⟨#[115, 105, 122, 101]⟩⟩, 3, ⟨#[109, 101, 100, 105, 117, 109]⟩, [⟨#[115, 109, 97, 108, 108]⟩, ⟨#[109, 101, 100, 105, 117, 109]⟩, ⟨#[108, 97, 114, 103, 101]⟩], 0⟩, ⟨⟨1, noB, ⟨#[116, 97, 103, 115]⟩⟩, 4, noB, [], 0⟩]
/-- A tag's edge. -/
def edgeOf (E : List EdgeD) (id : TagD) : Option EdgeD := E.find? fun e => decide (e.id = id)
/-- What comes of a tag whose parent came to r. -/
def stepC (r : Int × List FieldD × Int) (x : LensD) : Int × List FieldD × Int :=
  if r.1 = 2 then (if (applyS r.2.1 x).2 = 0 then (2, (applyS r.2.1 x).1, r.2.2 + 1) else (3, [], 0)) else if r.1 = 3 then (3, [], 0) else (1, [], 0)
/-- What comes of a tag: its state, its schema, how deep it is. -/
def comes : Nat → List EdgeD → TagD → Int × List FieldD × Int
  | 0, _, _ => (1, [], 0)
  | n + 1, E, id => if id = noTag then (2, rootS, 0) else match edgeOf E id with
    | none => (0, [], 0)
    | some e => stepC (comes n E e.parent) e.lens
def pend (e : EdgeD) : NodeD := ⟨e, 1, [], 0⟩
def nodeOf (E : List EdgeD) (e : EdgeD) : NodeD := let r := comes (E.length + 1) E e.id; ⟨e, r.1, r.2.1, r.2.2⟩
def atT (l : List (TagD × NodeD)) (id : TagD) : NodeD := if id = noTag then ⟨noEdge, 2, rootS, 0⟩ else (findT id l).getD noNode
def nodesOf (E : List EdgeD) : List (TagD × NodeD) := E.map fun e => (e.id, nodeOf E e)
/-- The cells of a map from tags to nodes. -/
def ents (l : List (TagD × NodeD)) : List (D × D) := l.map fun p => (tD p.1, nD p.2)
theorem look_node (l : List (TagD × NodeD)) (k : TagD) : ((findD (tD k) (ents l) 0).map (·.2)).getD (nD noNode) = nD ((findT k l).getD noNode) := by
  unfold ents
  rw [findT_map (g := nD)]
  cases findT k l <;> rfl
theorem look_found (l : List (TagD × NodeD)) (k : TagD) : (findD (tD k) (ents l) 0).isSome = (findT k l).isSome := findT_some (g := nD) k l 0
theorem ents_keys (l : List (TagD × NodeD)) : ∀ p ∈ ents l, ∃ t : TagD, p.1 = tD t := fst_map
theorem ents_len (l : List (TagD × NodeD)) : (ents l).length = l.length := by simp [ents]
theorem ents_put (l : List (TagD × NodeD)) (k : TagD) (n : NodeD) : putD (tD k) (nD n) (ents l) = ents (putT k n l) := putT_map (g := nD) k n l
theorem at_root {l : List (TagD × NodeD)} {id : TagD} (h : id = noTag) : atT l id = ⟨noEdge, 2, rootS, 0⟩ := if_pos h
theorem at_other {l : List (TagD × NodeD)} {id : TagD} (h : ¬ id = noTag) : atT l id = (findT id l).getD noNode := if_neg h
end Go.Vm
end
section
namespace Go.Vm
set_option linter.unusedVariables false
set_option linter.unusedSimpArgs false

abbrev Came := Int × List FieldD × Int
def doneB (r : Came) : Bool := decide (r.1 = 2) || decide (r.1 = 3)
theorem step_done {r : Came} {x : LensD} (h : doneB (stepC r x) = true) : doneB r = true := by
  unfold stepC at h
  split at h
  · rename_i h2; simp [doneB, h2]
  · split at h
    · rename_i h3; simp [doneB, h3]
    · simp [doneB] at h
theorem step_of_done {r : Came} {x : LensD} (h : doneB r = true) : doneB (stepC r x) = true := by
  unfold stepC
  simp only [doneB, Bool.or_eq_true, decide_eq_true_eq] at h
  split
  · split <;> simp [doneB]
  · rename_i h2
    rw [if_pos (h.resolve_left h2)]; simp [doneB]
theorem comes_succ {n : Nat} {E : List EdgeD} {id : TagD} {e : EdgeD} (h0 : ¬ id = noTag) (he : edgeOf E id = some e) : comes (n + 1) E id = stepC (comes n E e.parent) e.lens := by
  simp only [comes, if_neg h0, he]
theorem comes_none {n : Nat} {E : List EdgeD} {id : TagD} (h0 : ¬ id = noTag) (he : edgeOf E id = none) : comes (n + 1) E id = (0, [], 0) := by
  simp only [comes, if_neg h0, he]
theorem comes_root {n : Nat} {E : List EdgeD} : comes (n + 1) E noTag = (2, rootS, 0) := by simp [comes]
theorem comes_mono {E : List EdgeD} : ∀ {n : Nat} {id : TagD}, doneB (comes n E id) = true → comes (n + 1) E id = comes n E id
  | 0, id, h => by simp [comes, doneB] at h
  | n + 1, id, h => by
    by_cases h0 : id = noTag
    · subst h0; rw [comes_root, comes_root]
    · cases he : edgeOf E id with
      | none => rw [comes_none h0 he, comes_none h0 he]
      | some e =>
        rw [comes_succ h0 he, comes_succ (n := n) h0 he]
        rw [comes_succ h0 he] at h
        rw [comes_mono (step_done h)]
theorem comes_more {E : List EdgeD} {n : Nat} {id : TagD} (h : doneB (comes n E id) = true) : ∀ k, comes (n + k) E id = comes n E id
  | 0 => rfl
  | k + 1 => by
    have := comes_more h k
    rw [← Nat.add_assoc, comes_mono (by rw [this]; exact h), this]
def cnt (E : List EdgeD) (n : Nat) : Nat := E.countP fun e => doneB (comes n E e.id)
theorem countP_imp {α : Type} {p q : α → Bool} : ∀ {l : List α}, (∀ a ∈ l, p a = true → q a = true) → l.countP p = l.countP q → ∀ a ∈ l, q a = true → p a = true
  | [], _, _, a, ha, _ => by cases ha
  | b :: l, hi, hc, a, ha, hq => by
    have hle : l.countP p ≤ l.countP q := List.countP_mono_left fun a ha => hi a (List.mem_cons_of_mem _ ha)
    have hb := hi b (List.mem_cons_self ..)
    simp only [List.countP_cons] at hc
    rcases List.mem_cons.1 ha with rfl | ha
    · cases hp : p a with
      | true => rfl
      | false => rw [hp, hq] at hc; simp at hc; omega
    · refine countP_imp (fun a ha => hi a (List.mem_cons_of_mem _ ha)) ?_ a ha hq
      cases hp : p b with
      | true => rw [hp, hb hp] at hc; simpa using hc
      | false =>
        cases hq2 : q b with
        | true => rw [hp, hq2] at hc; simp at hc; omega
        | false => rw [hp, hq2] at hc; simpa using hc
theorem edge_mem {E : List EdgeD} {id : TagD} {e : EdgeD} (h : edgeOf E id = some e) : e ∈ E ∧ e.id = id := by
  unfold edgeOf at h
  exact ⟨List.mem_of_find?_eq_some h, by simpa using List.find?_some h⟩
/-- Once a round brings nothing new, no later one does. -/
theorem cnt_still {E : List EdgeD} {n : Nat} (h : cnt E (n + 2) = cnt E (n + 1)) : ∀ k id, doneB (comes (n + 1 + k) E id) = true → doneB (comes (n + 1) E id) = true := by
  have hstep : ∀ id, doneB (comes (n + 2) E id) = true → doneB (comes (n + 1) E id) = true := by
    intro id hd
    by_cases h0 : id = noTag
    · subst h0; rw [comes_root]; rfl
    · cases he : edgeOf E id with
      | none => rw [comes_none h0 he] at hd; simp [doneB] at hd
      | some e =>
        obtain ⟨hm, rfl⟩ := edge_mem he
        exact countP_imp (p := fun e : EdgeD => doneB (comes (n + 1) E e.id)) (q := fun e : EdgeD => doneB (comes (n + 2) E e.id)) (fun a _ ha => by rw [comes_mono ha]; exact ha) h.symm e hm hd
  intro k
  induction k with
  | zero => intro id h; exact h
  | succ k ih =>
    intro id hd
    by_cases h0 : id = noTag
    · subst h0; rw [comes_root]; rfl
    · cases he : edgeOf E id with
      | none => rw [show n + 1 + (k + 1) = (n + 1 + k) + 1 by omega, comes_none h0 he] at hd; simp [doneB] at hd
      | some e =>
        rw [show n + 1 + (k + 1) = (n + 1 + k) + 1 by omega, comes_succ h0 he] at hd
        have := ih e.parent (step_done hd)
        refine hstep id ?_
        rw [comes_succ h0 he]
        exact step_of_done this
theorem cnt_le (E : List EdgeD) (n : Nat) : cnt E n ≤ E.length := List.countP_le_length
theorem cnt_mono (E : List EdgeD) (n : Nat) : cnt E n ≤ cnt E (n + 1) := List.countP_mono_left fun e _ h => by rw [comes_mono h]; exact h
/-- What comes of a tag at all comes within as many rounds as there are edges, and one. -/
theorem comes_full {E : List EdgeD} {k : Nat} {id : TagD} (h : doneB (comes k E id) = true) : comes (E.length + 1) E id = comes k E id := by
  have key : ∃ n, n ≤ E.length ∧ cnt E (n + 2) = cnt E (n + 1) := by
    apply Classical.byContradiction
    intro hno
    have grow : ∀ n, n ≤ E.length + 1 → n ≤ cnt E (n + 1) := by
      intro n
      induction n with
      | zero => intro _; exact Nat.zero_le _
      | succ n ih =>
        intro hn
        have h1 := ih (by omega)
        have h2 := cnt_mono E (n + 1)
        have h3 : cnt E (n + 2) ≠ cnt E (n + 1) := fun e => hno ⟨n, by omega, e⟩
        show n + 1 ≤ cnt E (n + 2)
        have h4 : cnt E (n + 1) ≤ cnt E (n + 2) := h2
        omega
    have := grow (E.length + 1) (Nat.le_refl _)
    have := cnt_le E (E.length + 1 + 1)
    omega
  obtain ⟨n, hn, hc⟩ := key
  have hst := cnt_still hc
  rcases Nat.le_total k (n + 1) with hk | hk
  · have e1 := comes_more h (E.length + 1 - k)
    rwa [show k + (E.length + 1 - k) = E.length + 1 by omega] at e1
  · have h1 := hst (k - (n + 1)) id (by rw [show n + 1 + (k - (n + 1)) = k by omega]; exact h)
    have e1 := comes_more h1 (k - (n + 1))
    have e2 := comes_more h1 (E.length + 1 - (n + 1))
    rw [show n + 1 + (k - (n + 1)) = k by omega] at e1
    rw [show n + 1 + (E.length + 1 - (n + 1)) = E.length + 1 by omega] at e2
    rw [e1, e2]
/-- What comes of a tag. -/
def cameOf (E : List EdgeD) (id : TagD) : Came := comes (E.length + 1) E id
theorem came_step {E : List EdgeD} {id : TagD} {e : EdgeD} (h0 : ¬ id = noTag) (he : edgeOf E id = some e) : cameOf E id = stepC (cameOf E e.parent) e.lens := by
  unfold cameOf
  cases hd : doneB (comes (E.length + 1) E e.parent) with
  | true =>
    have : doneB (comes (E.length + 2) E id) = true := by rw [comes_succ h0 he]; exact step_of_done hd
    rw [comes_full this, comes_succ h0 he]
  | false =>
    rw [comes_succ h0 he]
    have h1 : doneB (comes E.length E e.parent) = false := by
      cases h2 : doneB (comes E.length E e.parent) with
      | false => rfl
      | true => rw [comes_mono h2] at hd; rw [hd] at h2; cases h2
    have nd : ∀ r : Came, doneB r = false → stepC r e.lens = (1, [], 0) := by
      intro r hr
      simp only [doneB, Bool.or_eq_false_iff, decide_eq_false_iff_not] at hr
      unfold stepC
      rw [if_neg hr.1, if_neg hr.2]
    rw [nd _ h1, nd _ hd]
theorem came_root {E : List EdgeD} : cameOf E noTag = (2, rootS, 0) := comes_root
theorem came_none {E : List EdgeD} {id : TagD} (h0 : ¬ id = noTag) (he : edgeOf E id = none) : cameOf E id = (0, [], 0) := comes_none h0 he

/-! ### Entries that are settled by and by -/
/-- Edges whose tags are unlike, and none the root's; their lenses can be gone through. -/
structure Good (E : List EdgeD) : Prop where
  ok : ∀ e ∈ E, okX e.lens
  tag : ∀ e ∈ E, ¬ e.id = noTag
  uniq : E.Pairwise fun a b => ¬ a.id = b.id
theorem edge_of_mem {E : List EdgeD} : E.Pairwise (fun a b => ¬ a.id = b.id) → ∀ {e : EdgeD}, e ∈ E → edgeOf E e.id = some e
  | .nil, e, h => by cases h
  | .cons (a := a) (l := l) h1 h2, e, h => by
    unfold edgeOf
    rcases List.mem_cons.1 h with rfl | h
    · simp
    · rw [List.find?_cons_of_neg (by simpa using h1 e h)]
      exact edge_of_mem h2 h
/-- Each entry is an edge's, and settled or not yet. -/
structure Half (E : List EdgeD) (l : List (TagD × NodeD)) : Prop where
  edges : l.map (fun p => p.2.edge) = E
  each : ∀ p ∈ l, p.1 = p.2.edge.id ∧ (p.2 = nodeOf E p.2.edge ∨ p.2 = pend p.2.edge)
theorem findT_mem {β : Type} {k : TagD} : ∀ {l : List (TagD × β)} {n : β}, findT k l = some n → (k, n) ∈ l
  | [], n, h => by cases h
  | p :: l, n, h => by
    unfold findT at h
    split at h
    · rename_i e; injection h with h; subst h e; exact List.mem_cons_self ..
    · exact List.mem_cons_of_mem _ (findT_mem h)
theorem edge_find {l : List (TagD × NodeD)} {k : TagD} : (∀ p ∈ l, p.1 = p.2.edge.id) → edgeOf (l.map fun p => p.2.edge) k = (findT k l).map (·.edge) := by
  induction l with
  | nil => intro _; rfl
  | cons p l ih =>
    intro h
    have hp := h p (List.mem_cons_self ..)
    unfold edgeOf findT
    simp only [List.map_cons]
    by_cases e : k = p.1
    · rw [if_pos e, List.find?_cons_of_pos (by simp [e, hp])]; rfl
    · rw [if_neg e, List.find?_cons_of_neg (by simp only [decide_eq_true_eq]; intro e2; exact e (by rw [hp, e2]))]
      exact ih fun q hq => h q (List.mem_cons_of_mem _ hq)
theorem Half.edge {E : List EdgeD} {l : List (TagD × NodeD)} (h : Half E l) (k : TagD) : edgeOf E k = (findT k l).map (·.edge) := by
  have := edge_find (k := k) fun p hp => (h.each p hp).1
  rwa [h.edges] at this
theorem node_came {E : List EdgeD} {e : EdgeD} : (nodeOf E e).state = (cameOf E e.id).1 ∧ (nodeOf E e).schema = (cameOf E e.id).2.1 ∧ (nodeOf E e).depth = (cameOf E e.id).2.2 ∧ (nodeOf E e).edge = e := ⟨rfl, rfl, rfl, rfl⟩
/-- What is known of a settled tag is what comes of it. -/
theorem Half.at {E : List EdgeD} {l : List (TagD × NodeD)} (h : Half E l) {id : TagD} (hs : (atT l id).state = 2 ∨ (atT l id).state = 3) : (atT l id).state = (cameOf E id).1 ∧ (atT l id).schema = (cameOf E id).2.1 ∧ (atT l id).depth = (cameOf E id).2.2 := by
  by_cases h0 : id = noTag
  · subst h0; rw [at_root rfl, came_root]; exact ⟨rfl, rfl, rfl⟩
  · rw [at_other h0] at hs ⊢
    cases hf : findT id l with
    | none => rw [hf] at hs; simp [noNode] at hs
    | some n =>
      rw [hf] at hs
      simp only [Option.getD_some] at hs ⊢
      obtain ⟨h1, h2⟩ := h.each _ (findT_mem hf)
      simp only at h1 h2
      rcases h2 with h2 | h2
      · rw [h2, h1]; exact ⟨rfl, rfl, rfl⟩
      · rw [h2] at hs; simp [pend] at hs
theorem came_undone {E : List EdgeD} {e : EdgeD} (hg : Good E) (he : e ∈ E) (h : doneB (cameOf E e.id) = false) : cameOf E e.id = (1, [], 0) := by
  rw [came_step (hg.tag e he) (edge_of_mem hg.uniq he)] at h ⊢
  cases hd : doneB (cameOf E e.parent) with
  | true => rw [step_of_done hd] at h; cases h
  | false =>
    simp only [doneB, Bool.or_eq_false_iff, decide_eq_false_iff_not] at hd
    unfold stepC
    rw [if_neg hd.1, if_neg hd.2]
theorem node_pend {E : List EdgeD} {e : EdgeD} (hg : Good E) (he : e ∈ E) (h : doneB (cameOf E e.id) = false) : nodeOf E e = pend e := by
  have := came_undone hg he h
  unfold nodeOf pend
  show NodeD.mk e (cameOf E e.id).1 (cameOf E e.id).2.1 (cameOf E e.id).2.2 = _
  rw [this]
/-- An entry that is pending as yet. -/
theorem Half.pend {E : List EdgeD} {l : List (TagD × NodeD)} (hg : Good E) (h : Half E l) {p : TagD × NodeD} (hp : p ∈ l) (hs : p.2.state = 1) : p.2 = Vm.pend p.2.edge ∧ p.1 = p.2.edge.id ∧ p.2.edge ∈ E := by
  obtain ⟨h1, h2⟩ := h.each p hp
  have hm : p.2.edge ∈ E := by rw [← h.edges]; exact List.mem_map.2 ⟨p, hp, rfl⟩
  refine ⟨?_, h1, hm⟩
  rcases h2 with h2 | h2
  · rw [h2] at hs
    have : doneB (cameOf E p.2.edge.id) = false := by
      have hs : (cameOf E p.2.edge.id).1 = 1 := hs
      simp [doneB, hs]
    rw [h2]; exact node_pend hg hm this
  · exact h2
/-- Its parent is settled by now: so is it. -/
theorem node_next {E : List EdgeD} {e : EdgeD} (hg : Good E) (he : e ∈ E) : nodeOf E e = ⟨e, (stepC (cameOf E e.parent) e.lens).1, (stepC (cameOf E e.parent) e.lens).2.1, (stepC (cameOf E e.parent) e.lens).2.2⟩ := by
  rw [← came_step (hg.tag e he) (edge_of_mem hg.uniq he)]; rfl
theorem put_at {β : Type} {k : TagD} {v : β} : ∀ {l : List (TagD × β)} {i : Nat} {q : TagD × β}, l[i]? = some q → q.1 = k → (∀ j p, j < i → l[j]? = some p → ¬ p.1 = k) → putT k v l = l.set i (k, v)
  | [], i, q, h, _, _ => by simp at h
  | p :: l, 0, q, h, hk, _ => by
    simp at h; subst h
    unfold putT; rw [if_pos hk.symm]; rfl
  | p :: l, i + 1, q, h, hk, hn => by
    unfold putT
    rw [if_neg (fun e => hn 0 p (Nat.succ_pos _) rfl e.symm)]
    rw [put_at (l := l) (i := i) (by simpa using h) hk (fun j p hj hp => hn (j + 1) p (by omega) (by simpa using hp))]
    rfl
theorem Half.uniq {E : List EdgeD} {l : List (TagD × NodeD)} (hg : Good E) (h : Half E l) {i j : Nat} {p q : TagD × NodeD} (hp : l[i]? = some p) (hq : l[j]? = some q) (hlt : i < j) : ¬ p.1 = q.1 := by
  have h1 : E[i]? = some p.2.edge := by rw [← h.edges, List.getElem?_map, hp]; rfl
  have h2 : E[j]? = some q.2.edge := by rw [← h.edges, List.getElem?_map, hq]; rfl
  obtain ⟨hi, e1⟩ := List.getElem?_eq_some_iff.1 h1
  obtain ⟨hj, e2⟩ := List.getElem?_eq_some_iff.1 h2
  have := (List.pairwise_iff_getElem.1 hg.uniq) i j hi hj hlt
  rw [e1, e2] at this
  rw [(h.each p (List.mem_of_getElem? hp)).1, (h.each q (List.mem_of_getElem? hq)).1]
  exact this
theorem set_self {α : Type} : ∀ {l : List α} {i : Nat} {x : α}, l[i]? = some x → l.set i x = l
  | [], i, x, h => by simp at h
  | y :: l, 0, x, h => by simp at h; subst h; rfl
  | y :: l, i + 1, x, h => by simp only [List.set_cons_succ]; rw [set_self (l := l) (by simpa using h)]
theorem Half.put {E : List EdgeD} {l : List (TagD × NodeD)} (hg : Good E) (h : Half E l) {i : Nat} {q : TagD × NodeD} (hq : l[i]? = some q) : putT q.1 (nodeOf E q.2.edge) l = l.set i (q.1, nodeOf E q.2.edge) ∧ Half E (putT q.1 (nodeOf E q.2.edge) l) := by
  have e := put_at (v := nodeOf E q.2.edge) hq rfl (fun j p hj hp => h.uniq hg hp hq hj)
  refine ⟨e, ?_⟩
  rw [e]
  have hi := (List.getElem?_eq_some_iff.1 hq).1
  constructor
  · rw [List.map_set, ← h.edges]
    show (l.map fun p => p.2.edge).set i q.2.edge = _
    exact set_self (by rw [List.getElem?_map, hq]; rfl)
  · intro p hp
    rcases List.mem_or_eq_of_mem_set hp with hp | rfl
    · exact h.each p hp
    · exact ⟨(h.each q (List.mem_of_getElem? hq)).1, .inl rfl⟩
/-- How many are pending. -/
def pends (l : List (TagD × NodeD)) : Nat := l.countP fun p => decide (p.2.state = 1)
theorem pends_put {l : List (TagD × NodeD)} {i : Nat} {q : TagD × NodeD} {n : NodeD} (hq : l[i]? = some q) (hs : q.2.state = 1) (hn : ¬ n.state = 1) : pends (l.set i (q.1, n)) < pends l := by
  have hi := (List.getElem?_eq_some_iff.1 hq).1
  have hqe := (List.getElem?_eq_some_iff.1 hq).2
  unfold pends
  rw [List.countP_set hi, hqe]
  have : 0 < l.countP fun p => decide (p.2.state = 1) := List.countP_pos_iff.2 ⟨q, List.mem_of_getElem? hq, by simpa using hs⟩
  simp [hs, hn]; omega
/-- Nothing is to be done at an entry. -/
def quiet (l : List (TagD × NodeD)) (i : Nat) : Prop := ∀ p, l[i]? = some p → ¬ p.2.state = 1 ∨ (¬ (atT l p.2.edge.parent).state = 2 ∧ ¬ (atT l p.2.edge.parent).state = 3)
/-- Once nothing is to be done, each entry is what comes of its edge. -/
theorem Half.over {E : List EdgeD} {l : List (TagD × NodeD)} (hg : Good E) (h : Half E l) (hq : ∀ i, i < l.length → quiet l i) : l = nodesOf E := by
  have key : ∀ n id nd, doneB (comes n E id) = true → ¬ id = noTag → findT id l = some nd → nd = nodeOf E nd.edge := by
    intro n
    induction n with
    | zero => intro id nd hd; simp [comes, doneB] at hd
    | succ n ih =>
      intro id nd hd h0 hf
      have hm := findT_mem hf
      obtain ⟨h1, h2⟩ := h.each _ hm
      simp only at h1 h2
      have he : edgeOf E id = some nd.edge := by rw [h.edge, hf]; rfl
      rcases h2 with h2 | h2
      · exact h2
      · exfalso
        rw [comes_succ h0 he] at hd
        have hd := step_done hd
        obtain ⟨i, hi⟩ := List.getElem?_of_mem hm
        rcases hq i (List.getElem?_eq_some_iff.1 hi).1 _ hi with h3 | ⟨h3, h4⟩
        · simp only at h3; rw [h2] at h3; exact h3 rfl
        · simp only at h3 h4
          by_cases hp : nd.edge.parent = noTag
          · rw [at_root hp] at h3; exact h3 rfl
          · cases hfp : findT nd.edge.parent l with
            | none =>
              have he2 : edgeOf E nd.edge.parent = none := by rw [h.edge, hfp]; rfl
              cases n with
              | zero => simp [comes, doneB] at hd
              | succ n => rw [comes_none hp he2] at hd; simp [doneB] at hd
            | some np =>
              have hnp := ih nd.edge.parent np hd hp hfp
              have h5 := (h.each _ (findT_mem hfp)).1
              simp only at h5
              have hc : cameOf E nd.edge.parent = comes n E nd.edge.parent := comes_full hd
              have hst : np.state = (cameOf E nd.edge.parent).1 := by rw [h5, hnp]; rfl
              rw [at_other hp, hfp] at h3 h4
              simp only [Option.getD_some] at h3 h4
              rw [hst, hc] at h3 h4
              simp only [doneB, Bool.or_eq_true, decide_eq_true_eq] at hd
              exact hd.elim h3 h4
  have each : ∀ p ∈ l, p = (p.2.edge.id, nodeOf E p.2.edge) := by
    intro p hp
    obtain ⟨h1, h2⟩ := h.each p hp
    have hm : p.2.edge ∈ E := by rw [← h.edges]; exact List.mem_map.2 ⟨p, hp, rfl⟩
    have h3 : p.2 = nodeOf E p.2.edge := by
      rcases h2 with h2 | h2
      · exact h2
      · cases hd : doneB (cameOf E p.2.edge.id) with
        | false => rw [node_pend hg hm hd]; exact h2
        | true =>
          have hf : findT p.1 l = some p.2 := by
            have he := h.edge p.1
            rw [h1, edge_of_mem hg.uniq hm] at he
            cases hf : findT p.2.edge.id l with
            | none => rw [hf] at he; cases he
            | some n =>
              rw [h1, hf]
              obtain ⟨i, hi⟩ := List.getElem?_of_mem hp
              obtain ⟨j, hj⟩ := List.getElem?_of_mem (findT_mem hf)
              rcases Nat.lt_trichotomy i j with hij | hij | hij
              · exact absurd (by simpa using h1) (h.uniq hg hi hj hij)
              · subst hij; rw [hi] at hj; injection hj with hj; rw [hj]
              · exact absurd (by simpa using h1.symm) (h.uniq hg hj hi hij)
          exact key _ p.1 p.2 (by rw [h1]; exact hd) (by rw [h1]; exact hg.tag _ hm) hf
    exact Prod.ext h1 h3
  have e : nodesOf E = l.map fun p => (p.2.edge.id, nodeOf E p.2.edge) := by
    have := congrArg (List.map fun e : EdgeD => (e.id, nodeOf E e)) h.edges
    rw [List.map_map] at this
    exact this.symm
  rw [e]
  conv => lhs; rw [← List.map_id l]
  exact List.map_congr_left fun p hp => each p hp

/-! ### For the walk -/
theorem ents_at {l : List (TagD × NodeD)} {i : Nat} {p : D × D} (h : (ents l)[i]? = some p) : ∃ q, l[i]? = some q ∧ p = (tD q.1, nD q.2) := by
  unfold ents at h
  rw [List.getElem?_map] at h
  obtain ⟨q, h1, h2⟩ := Option.map_eq_some_iff.1 h
  exact ⟨q, h1, h2.symm⟩
theorem okL_root : okL rootS := by
  refine ⟨by decide, ?_⟩
  intro f hf
  simp only [rootS, List.mem_cons, List.not_mem_nil, or_false] at hf
  rcases hf with rfl | rfl | rfl | rfl | rfl <;> decide
theorem okL_comes {E : List EdgeD} (hok : ∀ e ∈ E, okX e.lens) : ∀ n id, okL (comes n E id).2.1
  | 0, id => okL_nil
  | n + 1, id => by
    by_cases h0 : id = noTag
    · subst h0; rw [comes_root]; exact okL_root
    · cases he : edgeOf E id with
      | none => rw [comes_none h0 he]; exact okL_nil
      | some e =>
        rw [comes_succ h0 he]
        unfold stepC
        split
        · split
          · exact okL_apply (okL_comes hok n e.parent) (hok e (edge_mem he).1)
          · exact okL_nil
        · split <;> exact okL_nil
/-- How many entries have not come in a range over a map. -/
def unseen (n : Nat) (seen : List Nat) : Nat := ((List.range n).filter fun i => !seen.contains i).length
theorem unseen_next {n i : Nat} {seen : List Nat} (hi : i < n) (hs : i ∉ seen) : unseen n (seen ++ [i]) < unseen n seen := by
  unfold unseen
  have e : ((List.range n).filter fun j => !(seen ++ [i]).contains j) = ((List.range n).filter fun j => !seen.contains j).filter fun j => !(j == i) := by
    rw [List.filter_filter]
    congr 1
    funext j
    simp only [List.contains_append, Bool.not_or]
    rw [Bool.and_comm]
    congr 1
    simp
    rw [Bool.eq_iff_iff]; simp
  rw [e]
  refine List.length_filter_lt_length_iff_exists.2 ⟨i, List.mem_filter.2 ⟨List.mem_range.2 hi, by simpa using hs⟩, by simp⟩
theorem nodes_half {E : List EdgeD} {e : EdgeD} (hg : Good (E ++ [e])) : Half (E ++ [e]) (nodesOf E ++ [(e.id, pend e)]) := by
  have hgE : Good E := ⟨fun x hx => hg.ok x (List.mem_append_left _ hx), fun x hx => hg.tag x (List.mem_append_left _ hx), (List.pairwise_append.1 hg.uniq).1⟩
  have more : ∀ n id, doneB (comes n E id) = true → comes n (E ++ [e]) id = comes n E id := by
    intro n
    induction n with
    | zero => intro id h; rfl
    | succ n ih =>
      intro id h
      by_cases h0 : id = noTag
      · subst h0; rw [comes_root, comes_root]
      · cases he : edgeOf E id with
        | none => rw [comes_none h0 he] at h; simp [doneB] at h
        | some f =>
          have he2 : edgeOf (E ++ [e]) id = some f := by unfold edgeOf at *; rw [List.find?_append, he]; rfl
          rw [comes_succ h0 he] at h
          rw [comes_succ h0 he, comes_succ h0 he2, ih _ (step_done h)]
  constructor
  · unfold nodesOf
    rw [List.map_append, List.map_map]
    show E.map (fun f => f) ++ [e] = _
    rw [List.map_id']
  · intro p hp
    rcases List.mem_append.1 hp with hp | hp
    · obtain ⟨f, hf, rfl⟩ := List.mem_map.1 hp
      refine ⟨rfl, ?_⟩
      show nodeOf E f = nodeOf (E ++ [e]) f ∨ nodeOf E f = pend f
      cases hd : doneB (cameOf E f.id) with
      | true =>
        left
        have h1 : cameOf (E ++ [e]) f.id = cameOf E f.id := by
          have h2 : comes (E.length + 1) (E ++ [e]) f.id = cameOf E f.id := more _ _ hd
          rw [← h2]
          exact comes_full (by rw [h2]; exact hd)
        show NodeD.mk f (cameOf E f.id).1 (cameOf E f.id).2.1 (cameOf E f.id).2.2 = NodeD.mk f (cameOf (E ++ [e]) f.id).1 (cameOf (E ++ [e]) f.id).2.1 (cameOf (E ++ [e]) f.id).2.2
        rw [h1]
      | false => exact .inr (node_pend hgE hf hd)
    · rw [List.mem_singleton.1 hp]; exact ⟨rfl, .inr rfl⟩
theorem putT_new {β : Type} {k : TagD} {v : β} : ∀ {l : List (TagD × β)}, findT k l = none → putT k v l = l ++ [(k, v)]
  | [], _ => rfl
  | p :: l, h => by
    unfold findT at h
    split at h
    · cases h
    · rename_i e
      unfold putT; rw [if_neg e, putT_new h]; rfl
theorem find_nodes (E : List EdgeD) (k : TagD) : findT k (nodesOf E) = (edgeOf E k).map (nodeOf E) := by
  unfold nodesOf
  generalize nodeOf E = g
  induction E with
  | nil => rfl
  | cons e E ih =>
    simp only [List.map_cons, findT, edgeOf]
    by_cases h : k = e.id
    · rw [if_pos h, List.find?_cons_of_pos (by simp [h])]; rfl
    · rw [if_neg h, List.find?_cons_of_neg (by simp only [decide_eq_true_eq]; exact fun e => h e.symm)]; exact ih
/-- One more edge; the code. -/
def putE (E : List EdgeD) (e : EdgeD) : List EdgeD × Int :=
  if edgeB e = false then (E, 5) else match edgeOf E e.id with
    | some f => if f = e then (E, 7) else (E, 15)
    | none => if 40 ≤ E.length then (E, 9) else (E ++ [e], 0)
theorem edgeOf_none {E : List EdgeD} {k : TagD} (h : edgeOf E k = none) : ∀ f ∈ E, ¬ f.id = k := by
  intro f hf e
  unfold edgeOf at h
  have := List.find?_eq_none.1 h f hf
  simp [e] at this
theorem tag_real {t : TagD} (h : tagB t = true) : ¬ t = noTag := by
  rintro rfl; simp [tagB, noTag] at h
theorem Good.more {E : List EdgeD} {e : EdgeD} (hg : Good E) (hx : okX e.lens) (hb : edgeB e = true) (hn : edgeOf E e.id = none) : Good (E ++ [e]) := by
  have ht : tagB e.id = true := by unfold edgeB at hb; simp only [Bool.and_eq_true] at hb; exact hb.1.1
  refine ⟨fun x hx2 => ?_, fun x hx2 => ?_, List.pairwise_append.2 ⟨hg.uniq, List.pairwise_singleton .., fun a ha b hb => ?_⟩⟩
  · rcases List.mem_append.1 hx2 with h | h
    · exact hg.ok x h
    · rw [List.mem_singleton.1 h]; exact hx
  · rcases List.mem_append.1 hx2 with h | h
    · exact hg.tag x h
    · rw [List.mem_singleton.1 h]; exact tag_real ht
  · rw [List.mem_singleton.1 hb]; exact edgeOf_none hn a ha
theorem Good.put {E : List EdgeD} {e : EdgeD} (hg : Good E) (hx : okX e.lens) : Good (putE E e).1 := by
  unfold putE
  split
  · exact hg
  · rename_i hb
    split
    · split <;> exact hg
    · rename_i hn
      split
      · exact hg
      · exact hg.more hx (by simpa using hb) hn

theorem depth_le {E : List EdgeD} : ∀ n id, 0 ≤ (comes n E id).2.2 ∧ (comes n E id).2.2 ≤ n
  | 0, id => by simp [comes]
  | n + 1, id => by
    by_cases h0 : id = noTag
    · subst h0; rw [comes_root]; simp; omega
    · cases he : edgeOf E id with
      | none => rw [comes_none h0 he]; simp; omega
      | some e =>
        rw [comes_succ h0 he]
        have := depth_le (E := E) n e.parent
        unfold stepC
        split
        · split
          · simp only; omega
          · simp; omega
        · split <;> (simp; omega)
section
variable {E : List EdgeD} {l : List (TagD × NodeD)} {e : EdgeD} {n : NodeD}
theorem Half.dead (hg : Good E) (h : Half E l) (hm : n.edge ∈ E) (hp : n = Vm.pend n.edge) (h3 : (atT l n.edge.parent).state = 3) : nodeOf E n.edge = ⟨n.edge, 3, n.schema, n.depth⟩ := by
  have hs : n.schema = [] := by rw [hp]; rfl
  have hd : n.depth = 0 := by rw [hp]; rfl
  have hat := (h.at (.inr h3)).1
  rw [node_next hg hm, hs, hd]
  unfold stepC
  rw [if_neg (by rw [← hat, h3]; decide), if_pos (by rw [← hat, h3])]
theorem Half.unfit (hg : Good E) (h : Half E l) (hm : n.edge ∈ E) (hp : n = Vm.pend n.edge) (h2 : (atT l n.edge.parent).state = 2) (hc : ¬ (applyS (atT l n.edge.parent).schema n.edge.lens).2 = 0) : nodeOf E n.edge = ⟨n.edge, 3, n.schema, n.depth⟩ := by
  have hs : n.schema = [] := by rw [hp]; rfl
  have hd : n.depth = 0 := by rw [hp]; rfl
  have hat := h.at (.inl h2)
  rw [node_next hg hm, hs, hd]
  unfold stepC
  rw [if_pos (by rw [← hat.1, h2]), if_neg (by rw [← hat.2.1]; exact hc)]
theorem Half.live (hg : Good E) (h : Half E l) (hm : n.edge ∈ E) (h2 : (atT l n.edge.parent).state = 2) (hc : (applyS (atT l n.edge.parent).schema n.edge.lens).2 = 0) : nodeOf E n.edge = ⟨n.edge, 2, (applyS (atT l n.edge.parent).schema n.edge.lens).1, (atT l n.edge.parent).depth + 1⟩ := by
  have hat := h.at (.inl h2)
  rw [node_next hg hm]
  unfold stepC
  rw [if_pos (by rw [← hat.1, h2]), if_pos (by rw [← hat.2.1]; exact hc), hat.2.1, hat.2.2]
end

section
variable {E : List EdgeD} {e f : EdgeD}
theorem put_e5 (h : edgeB e = false) : putE E e = (E, 5) := if_pos h
theorem put_e7 (h : edgeB e = true) (hf : edgeOf E e.id = some f) (hs : f = e) : putE E e = (E, 7) := by unfold putE; rw [if_neg (by rw [h]; simp), hf]; exact if_pos hs
theorem put_e15 (h : edgeB e = true) (hf : edgeOf E e.id = some f) (hs : ¬ f = e) : putE E e = (E, 15) := by unfold putE; rw [if_neg (by rw [h]; simp), hf]; exact if_neg hs
theorem put_e9 (h : edgeB e = true) (hf : edgeOf E e.id = none) (hs : 40 ≤ E.length) : putE E e = (E, 9) := by unfold putE; rw [if_neg (by rw [h]; simp), hf]; exact if_pos hs
theorem put_e0 (h : edgeB e = true) (hf : edgeOf E e.id = none) (hs : ¬ 40 ≤ E.length) : putE E e = (E ++ [e], 0) := by unfold putE; rw [if_neg (by rw [h]; simp), hf]; exact if_neg hs
theorem find_some {k : TagD} (h : (findT k (nodesOf E)).isSome = true) : ∃ f, edgeOf E k = some f ∧ (findT k (nodesOf E)).getD noNode = nodeOf E f ∧ f ∈ E := by
  rw [find_nodes] at h ⊢
  cases hf : edgeOf E k with
  | none => rw [hf] at h; cases h
  | some f => exact ⟨f, rfl, rfl, (edge_mem hf).1⟩
theorem find_miss {k : TagD} (h : (findT k (nodesOf E)).isSome = false) : edgeOf E k = none ∧ findT k (nodesOf E) = none := by
  rw [find_nodes] at h ⊢
  cases hf : edgeOf E k with
  | none => exact ⟨rfl, rfl⟩
  | some f => rw [hf] at h; cases h
theorem nodes_len : (ents (nodesOf E)).length = E.length := by simp [ents, nodesOf]
end
end Go.Vm
end
