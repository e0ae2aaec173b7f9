/- Lenses as the program reckons them, and that it comes to the same. -/
import Derived.Test.YthkgbmekiclgmaaLnKeepP
namespace Go.Vm
set_option linter.unusedVariables false
set_option linter.unusedSimpArgs false

/-- A lens that isn't long. -/
def okX (x : LensD) : Prop := x.field.cases.length ≤ 1000000 ∧ x.forth.length ≤ 1000 ∧ x.back.length ≤ 1000
def partsL (x : LensD) : LensD × Bool :=
  if x.kind = 1 ∨ x.kind = 5 then (⟨x.kind, x.at_, x.name, noB, 0, noField, [], []⟩, true)
  else if x.kind = 2 ∨ x.kind = 3 then (⟨x.kind, noRef, noB, noB, 0, x.field, [], []⟩, true)
  else if x.kind = 4 then (⟨x.kind, x.at_, noB, noB, 0, noField, [], []⟩, true)
  else if x.kind = 6 ∨ x.kind = 9 then (⟨x.kind, x.at_, x.name, x.other, x.factor, noField, [], []⟩, true)
  else if x.kind = 7 ∨ x.kind = 10 then (⟨x.kind, x.at_, noB, x.other, 0, noField, [], []⟩, true)
  else if x.kind = 8 then (⟨x.kind, x.at_, x.name, x.other, 0, noField, x.forth, x.back⟩, true)
  else (noLens, false)
def rightTb (x : LensD) : Bool := nameB x.name && rightT x.forth x.back && rightT x.back x.forth && decide (caseT x.forth x.name = (x.other, true)) && decide (caseT x.back x.other = (x.name, true))
def rightLp (x : LensD) : Bool :=
  if (partsL x).2 = false then false else if ¬ x = (partsL x).1 then false
  else if x.kind = 2 ∨ x.kind = 3 then rightF x.field
  else if placeB x.at_ = false then false
  else if x.kind = 1 then nameB x.name
  else if x.kind = 4 then !decide (x.at_.group = noB)
  else if x.kind = 5 then decide (x.at_.group = noB) && nameB x.name
  else if x.kind = 6 ∨ x.kind = 9 then nameB x.name && nameB x.other && !decide (x.name = x.other) && decide (2 ≤ x.factor) && decide (x.factor ≤ 1000)
  else if x.kind = 7 ∨ x.kind = 10 then decide (x.other.size ≤ 40)
  else rightTb x
def rightLq (b2 b1 : Bool) (x : LensD) : Bool :=
  if b2 = false then false else if b1 = false then false
  else if x.kind = 2 ∨ x.kind = 3 then rightF x.field
  else if placeB x.at_ = false then false
  else if x.kind = 1 then nameB x.name
  else if x.kind = 4 then !decide (x.at_.group = noB)
  else if x.kind = 5 then decide (x.at_.group = noB) && nameB x.name
  else if x.kind = 6 ∨ x.kind = 9 then nameB x.name && nameB x.other && !decide (x.name = x.other) && decide (2 ≤ x.factor) && decide (x.factor ≤ 1000)
  else if x.kind = 7 ∨ x.kind = 10 then decide (x.other.size ≤ 40)
  else rightTb x
theorem rightLp_q (x : LensD) : rightLp x = rightLq (partsL x).2 (decide (x = (partsL x).1)) x := by
  unfold rightLp rightLq
  by_cases h : x = (partsL x).1
  · rw [if_neg (not_not_intro h), decide_eq_true h, if_neg (show ¬ (true = false) by simp)]
  · rw [if_pos h, decide_eq_false h, if_pos (show false = false from rfl)]
theorem rightTb_eq (x : LensD) : rightTb x = (rightT x.forth x.back && rightT x.back x.forth && decide (caseT x.forth x.name = (x.other, true)) && decide (caseT x.back x.other = (x.name, true))) := by
  unfold rightTb
  by_cases h : rightT x.forth x.back = true
  · by_cases h2 : caseT x.forth x.name = (x.other, true)
    · rw [rightT_name h (by rw [h2])]; rfl
    · simp [h2]
  · simp [h]
theorem rightLp_eq (x : LensD) : rightLp x = rightL x := by
  have hp := rightTb_eq x
  obtain ⟨k, ⟨s, g, n⟩, nm, ot, fa, f, fo, ba⟩ := x
  unfold rightLp rightL partsL
  simp only at *
  rw [hp]
  by_cases h2 : k = 2
  · subst h2; simp [noRef]; by_cases hh : rightF f = true <;> simp [hh] <;> grind
  by_cases h3 : k = 3
  · subst h3; simp [noRef]; by_cases hh : rightF f = true <;> simp [hh] <;> grind
  by_cases h1 : k = 1
  · subst h1; simp [noRef]; grind
  by_cases h4 : k = 4
  · subst h4; simp [noRef]; grind
  by_cases h5 : k = 5
  · subst h5; simp [noRef]; grind
  by_cases h6 : k = 6
  · subst h6; simp [noRef]; grind
  by_cases h9 : k = 9
  · subst h9; simp [noRef]; grind
  by_cases h7 : k = 7
  · subst h7; simp [noRef]; grind
  by_cases h10 : k = 10
  · subst h10; simp [noRef]; grind
  by_cases h8 : k = 8
  · subst h8; simp [noRef]; grind
  · simp [h1, h2, h3, h4, h5, h6, h7, h8, h9, h10]

/-! ### Where a lens leads, as the program goes -/
def comeL (x : LensD) : RefD := match comesL x with
  | [] => noRef
  | c :: _ => c
def mergedS (l : List FieldD) (x : LensD) : List FieldD × Bool :=
  if ¬ (findS l (named x.at_ x.name)).2 = 0 ∨ ¬ (findS l (named x.at_ x.name)).1.kind = 1 then ([], false)
  else if ¬ (findS l (named x.at_ x.other)).2 = 0 ∨ ¬ (findS l (named x.at_ x.other)).1.kind = 1 ∨ ¬ (findS l (named x.at_ x.other)).1.worth = (findS l (named x.at_ x.name)).1.worth * x.factor then ([], false)
  else ([⟨x.at_, 1, noB, [], (findS l (named x.at_ x.name)).1.worth⟩], true)
def arrS (l : List FieldD) (x : LensD) : List FieldD × Bool :=
  if x.kind = 2 then ([x.field], true)
  else if x.kind = 3 then ([], decide ((findS l x.field.at_).2 = 0) && decide ((findS l x.field.at_).1 = x.field))
  else if x.kind = 9 then mergedS l x
  else if ¬ (findS l x.at_).2 = 0 then ([], false)
  else if x.kind = 6 then ([⟨named x.at_ x.name, 1, noB, [], (findS l x.at_).1.worth⟩, ⟨named x.at_ x.other, 1, noB, [], (findS l x.at_).1.worth * x.factor⟩], decide ((findS l x.at_).1.kind = 1))
  else if x.kind = 7 then ([⟨x.at_, 4, noB, [], 0⟩], decide ((findS l x.at_).1.kind = 2) && decide ((findS l x.at_).1.deft = x.other))
  else if x.kind = 10 then ([⟨x.at_, 2, x.other, [], 0⟩], decide ((findS l x.at_).1.kind = 4))
  else if x.kind = 8 then ([⟨x.at_, 3, x.other, froms x.back, 0⟩], decide ((findS l x.at_).1 = ⟨x.at_, 3, x.name, froms x.forth, 0⟩))
  else ([⟨comeL x, (findS l x.at_).1.kind, (findS l x.at_).1.deft, (findS l x.at_).1.cases, (findS l x.at_).1.worth⟩], true)
def delLoop : List FieldD → List RefD → List FieldD × Int
  | l, [] => (l, 0)
  | l, r :: rs => if (withoutS l r).2 = 0 then delLoop (withoutS l r).1 rs else ([], 16)
def applyP (l : List FieldD) (x : LensD) : List FieldD × Int :=
  if (rightS l && rightL x) = false then ([], 5)
  else if (arrS l x).2 = false then ([], 16)
  else if ¬ (delLoop l (goesL x)).2 = 0 then ([], 16)
  else withAll (delLoop l (goesL x)).1 (arrS l x).1
theorem without_ok {l : List FieldD} {r : RefD} (h : rightS l = true) (h0 : ¬ indexS l r < 0) : withoutS l r = (delF l r, 0) := by
  unfold withoutS; rw [h, if_neg (by simp), if_neg h0]
theorem delLoop_ok {rs : List RefD} : ∀ {l : List FieldD}, rightS l = true → rs.Nodup → (∀ r ∈ rs, ¬ indexS l r < 0) → delLoop l rs = (delAll l rs, 0) := by
  induction rs with
  | nil => intro l _ _ _; rfl
  | cons r rs ih =>
    intro l h hnd hall
    obtain ⟨hr, hnd⟩ := List.nodup_cons.1 hnd
    have e := without_ok h (hall r (List.mem_cons_self ..))
    unfold delLoop
    rw [e, if_pos rfl]
    refine ih (rightS_del h r) hnd (fun s hs => ?_)
    have h1 := hall s (List.mem_cons_of_mem _ hs)
    have h2 : 0 ≤ indexS l s := by omega
    obtain ⟨f, hf, e2⟩ := index_pos.1 h2
    have : 0 ≤ indexS (delF l r) s := index_pos.2 ⟨f, mem_delF.2 ⟨hf, by rw [e2]; rintro rfl; exact hr hs⟩, e2⟩
    show ¬ indexS (delF l r) s < 0
    omega
theorem find_neg {l : List FieldD} {r : RefD} (h : indexS l r < 0) : findS l r = (noField, 6) := by unfold findS; rw [if_pos h]
theorem find_pos {l : List FieldD} {r : RefD} (h : ¬ indexS l r < 0) : findS l r = (fieldAt l r, 0) := by unfold findS; rw [if_neg h]
theorem find_nn {l : List FieldD} {r : RefD} (h : 0 ≤ indexS l r) : findS l r = (fieldAt l r, 0) := find_pos (by omega)
theorem arr_missing {l : List FieldD} {x : LensD} (h : (goesL x).any (fun g => decide (indexS l g < 0)) = true) : (arrS l x).2 = false := by
  unfold goesL at h
  unfold arrS mergedS
  by_cases h2 : x.kind = 2
  · simp [h2] at h
  by_cases h3 : x.kind = 3
  · simp [h3] at h; simp [h3, find_neg h]
  by_cases h9 : x.kind = 9
  · simp [h9] at h
    simp only [h2, h3, h9, if_true, if_false]
    rcases h with h | h
    · simp [find_neg h]
    · by_cases h' : indexS l (named x.at_ x.name) < 0
      · simp [find_neg h']
      · by_cases hk : (fieldAt l (named x.at_ x.name)).kind = 1 <;> simp [find_neg h, find_pos h', hk]
  · simp [h2, h3, h9] at h; simp [h2, h3, h9, find_neg h]
theorem arr_news {l : List FieldD} {x : LensD} (h : ∀ g ∈ goesL x, ¬ indexS l g < 0) : match newsL l x with
    | none => (arrS l x).2 = false
    | some fs => arrS l x = (fs, true) := by
  unfold goesL at h
  unfold newsL arrS mergedS comeL
  by_cases h2 : x.kind = 2
  · simp [h2]
  by_cases h3 : x.kind = 3
  · simp [h3] at h; simp only [h2, h3, if_true, if_false, find_nn h]; by_cases e : fieldAt l x.field.at_ = x.field <;> simp [e]
  by_cases h9 : x.kind = 9
  · simp [h9] at h
    simp only [h2, h3, h9, if_true, if_false, find_nn h.1, find_nn h.2]
    by_cases e1 : (fieldAt l (named x.at_ x.name)).kind = 1 <;> by_cases e2 : (fieldAt l (named x.at_ x.other)).kind = 1 <;> by_cases e3 : (fieldAt l (named x.at_ x.other)).worth = (fieldAt l (named x.at_ x.name)).worth * x.factor <;> simp [e1, e2, e3]
  simp [h2, h3, h9] at h
  simp only [h2, h3, h9, if_false, find_nn h]
  by_cases h6 : x.kind = 6
  · by_cases e : (fieldAt l x.at_).kind = 1 <;> simp [h6, e]
  by_cases h7 : x.kind = 7
  · by_cases e : (fieldAt l x.at_).kind = 2 <;> by_cases e2 : (fieldAt l x.at_).deft = x.other <;> simp [h7, e, e2]
  by_cases h10 : x.kind = 10
  · by_cases e : (fieldAt l x.at_).kind = 4 <;> simp [h10, e]
  by_cases h8 : x.kind = 8
  · by_cases e : fieldAt l x.at_ = ⟨x.at_, 3, x.name, froms x.forth, 0⟩ <;> simp [h8, e]
  · simp only [h6, h7, h10, h8, if_false]
    have : comesL x ≠ [] := by unfold comesL; simp only [h2, h3, h6, if_false]; (repeat' split) <;> simp
    cases hc : comesL x with
    | nil => exact absurd hc this
    | cons c cs => simp
theorem applyP_eq (l : List FieldD) (x : LensD) : applyP l x = applyS l x := by
  unfold applyP applyS
  by_cases h : (rightS l && rightL x) = false
  · rw [if_pos h, if_pos h]
  rw [if_neg h, if_neg h]
  obtain ⟨hl, hx⟩ : rightS l = true ∧ rightL x = true := by simpa using h
  by_cases hg : (goesL x).any (fun g => decide (indexS l g < 0)) = true
  · rw [if_pos hg, if_pos (arr_missing hg)]
  · rw [if_neg hg]
    have hall : ∀ g ∈ goesL x, ¬ indexS l g < 0 := by simpa using hg
    rw [delLoop_ok hl (goes_nodup hx) hall]
    have h4 := arr_news hall
    cases hn : newsL l x with
    | none => rw [hn] at h4; rw [if_pos h4]
    | some fs => rw [hn] at h4; simp only at h4; rw [h4]; simp

/-! ### Where a lens leads, as the reference goes -/
def putS (l : List FieldD) (f : FieldD) (ok : Bool) : List FieldD × Bool := ((withS l f).1, ok && decide ((withS l f).2 = 0))
def refA (rest : List FieldD) (w v : FieldD) (x : LensD) : List FieldD × Bool :=
  if x.kind = 2 then putS rest x.field true
  else if x.kind = 3 then (rest, decide (w = x.field))
  else if x.kind = 6 then putS (putS rest ⟨named x.at_ x.name, 1, noB, [], w.worth⟩ (decide (w.kind = 1) && decide (w.worth * x.factor < 1048577))).1 ⟨named x.at_ x.other, 1, noB, [], w.worth * x.factor⟩ (putS rest ⟨named x.at_ x.name, 1, noB, [], w.worth⟩ (decide (w.kind = 1) && decide (w.worth * x.factor < 1048577))).2
  else if x.kind = 7 then putS rest ⟨x.at_, 4, noB, [], 0⟩ (decide (w.kind = 2) && decide (w.deft = x.other))
  else if x.kind = 8 then putS rest ⟨x.at_, 3, x.other, froms x.back, 0⟩ (decide (w.kind = 3) && decide (w.deft = x.name) && decide (w.cases = froms x.forth))
  else if x.kind = 9 then putS rest ⟨x.at_, 1, noB, [], w.worth⟩ (decide (w.kind = 1) && decide (v.kind = 1) && decide (v.worth = w.worth * x.factor))
  else if x.kind = 10 then putS rest ⟨x.at_, 2, x.other, [], 0⟩ (decide (w.kind = 4))
  else putS rest ⟨comeL x, w.kind, w.deft, w.cases, w.worth⟩ true
/-- The fields that go. -/
def wasL (l : List FieldD) (x : LensD) : List FieldD := (goesL x).map (fieldAt l)
def at0 (l : List FieldD) : FieldD := l.headD noField
def at1 (l : List FieldD) : FieldD := l.tail.headD noField
def applyR (l : List FieldD) (x : LensD) : List FieldD × Int :=
  if (rightS l && rightL x) = false then ([], 5)
  else if (goesL x).any (fun g => decide (indexS l g < 0)) then ([], 16)
  else if (refA (delAll l (goesL x)) (at0 (wasL l x)) (at1 (wasL l x)) x).2 = false then ([], 16)
  else ((refA (delAll l (goesL x)) (at0 (wasL l x)) (at1 (wasL l x)) x).1, 0)
theorem withAll_one {l : List FieldD} {f : FieldD} : withAll l [f] = if (withS l f).2 = 0 then ((withS l f).1, 0) else ([], 16) := by
  unfold withAll withAll; rfl
theorem put_one {l : List FieldD} {f : FieldD} {ok : Bool} : (if (putS l f ok).2 = false then (([] : List FieldD), (16 : Int)) else ((putS l f ok).1, 0)) = if ok = true then withAll l [f] else ([], 16) := by
  rw [withAll_one]
  unfold putS
  by_cases h : (withS l f).2 = 0 <;> cases ok <;> simp [h]
theorem with_big {l : List FieldD} {f : FieldD} (h : rightF f = false) : ¬ (withS l f).2 = 0 := by unfold withS; rw [h, Bool.and_false, if_pos rfl]; simp
theorem rightF_worth {f : FieldD} (h : rightF f = true) : 0 ≤ f.worth ∧ f.worth ≤ 1048576 := by
  unfold rightF at h
  simp only [Bool.and_eq_true] at h
  have h := h.2
  split at h
  · simp only [Bool.and_eq_true, decide_eq_true_eq] at h; omega
  split at h
  · simp only [Bool.and_eq_true, decide_eq_true_eq] at h; omega
  split at h
  · simp only [Bool.and_eq_true, decide_eq_true_eq] at h; omega
  split at h
  · simp only [Bool.and_eq_true, decide_eq_true_eq] at h; omega
  · cases h
theorem rightF_enum {f : FieldD} (h : rightF f = true) (hk : f.kind = 3) : f.worth = 0 := by
  unfold rightF at h
  rw [hk] at h
  simp only [Bool.and_eq_true, decide_eq_true_eq] at h
  simp at h
  exact h.2.2
theorem worth_big {r : RefD} {n : Int} (h : ¬ n < 1048577) : rightF ⟨r, 1, noB, [], n⟩ = false := by
  cases hc : rightF ⟨r, 1, noB, [], n⟩ with
  | false => rfl
  | true => have := rightF_worth hc; simp only at this; omega
theorem rightS_mem {l : List FieldD} {f : FieldD} (h : rightS l = true) (hf : f ∈ l) : rightF f = true := (rightS_iff.1 h).2.1 f hf
theorem applyR_eq (l : List FieldD) (x : LensD) : applyR l x = applyS l x := by
  unfold applyR applyS
  by_cases h : (rightS l && rightL x) = false
  · rw [if_pos h, if_pos h]
  rw [if_neg h, if_neg h]
  obtain ⟨hl, hx⟩ : rightS l = true ∧ rightL x = true := by simpa using h
  by_cases hg : (goesL x).any (fun g => decide (indexS l g < 0)) = true
  · rw [if_pos hg, if_pos hg]
  rw [if_neg hg, if_neg hg]
  have hall : ∀ g ∈ goesL x, ¬ indexS l g < 0 := by simpa using hg
  generalize hR : delAll l (goesL x) = R
  unfold refA newsL wasL
  by_cases h2 : x.kind = 2
  · simp only [h2, if_true]; rw [put_one]; simp
  simp only [h2, if_false]
  by_cases h3 : x.kind = 3
  · simp only [h3, if_true, goesL, List.map_cons, List.map_nil, at0, List.headD_cons]
    by_cases e : fieldAt l x.field.at_ = x.field <;> simp [e, withAll]
  simp only [h3, if_false]
  by_cases h9 : x.kind = 9
  · simp only [h9, if_true, show ¬ (9 : Int) = 6 by omega, show ¬ (9 : Int) = 7 by omega, show ¬ (9 : Int) = 8 by omega, show ¬ (9 : Int) = 2 by omega, show ¬ (9 : Int) = 3 by omega, if_false, goesL, List.map_cons, List.map_nil, at0, at1, List.headD_cons, List.tail_cons]
    rw [put_one]
    by_cases e1 : (fieldAt l (named x.at_ x.name)).kind = 1 <;> by_cases e2 : (fieldAt l (named x.at_ x.other)).kind = 1 <;> by_cases e3 : (fieldAt l (named x.at_ x.other)).worth = (fieldAt l (named x.at_ x.name)).worth * x.factor <;> simp [e1, e2, e3]
  simp only [h9, if_false, goesL, h2, h3, List.map_cons, List.map_nil, at0, List.headD_cons]
  have hat := hall x.at_ (by simp [goesL, h2, h3, h9])
  obtain ⟨hm, he⟩ := fieldAt_spec hat
  have hrf := rightS_mem hl hm
  by_cases h6 : x.kind = 6
  · simp only [h6, if_true]
    by_cases e : (fieldAt l x.at_).kind = 1
    · by_cases e2 : (fieldAt l x.at_).worth * x.factor < 1048577
      · simp only [e, e2, decide_true, Bool.and_true, if_true]
        unfold withAll
        rw [withAll_one]
        unfold putS
        by_cases q : (withS R ⟨named x.at_ x.name, 1, noB, [], (fieldAt l x.at_).worth⟩).2 = 0
        · by_cases q2 : (withS (withS R ⟨named x.at_ x.name, 1, noB, [], (fieldAt l x.at_).worth⟩).1 ⟨named x.at_ x.other, 1, noB, [], (fieldAt l x.at_).worth * x.factor⟩).2 = 0 <;> simp [q, q2]
        · simp [q]
      · simp only [e, e2, decide_true, decide_false, Bool.and_false, if_true]
        unfold withAll
        rw [withAll_one]
        unfold putS
        have q2 := with_big (l := (withS R ⟨named x.at_ x.name, 1, noB, [], (fieldAt l x.at_).worth⟩).1) (worth_big (r := named x.at_ x.other) e2)
        simp [q2]
    · simp only [e, decide_false, Bool.false_and, if_false]
      unfold putS; simp
  simp only [h6, if_false]
  by_cases h7 : x.kind = 7
  · simp only [h7, if_true]; rw [put_one]
    by_cases e : (fieldAt l x.at_).kind = 2 <;> by_cases e2 : (fieldAt l x.at_).deft = x.other <;> simp [e, e2]
  simp only [h7, if_false]
  by_cases h8 : x.kind = 8
  · simp only [h8, if_true, show ¬ (8 : Int) = 10 by omega, if_false]; rw [put_one]
    have key : (fieldAt l x.at_ = ⟨x.at_, 3, x.name, froms x.forth, 0⟩) ↔ ((decide ((fieldAt l x.at_).kind = 3) && decide ((fieldAt l x.at_).deft = x.name) && decide ((fieldAt l x.at_).cases = froms x.forth)) = true) := by
      constructor
      · intro k; rw [k]; simp
      · intro k
        simp only [Bool.and_eq_true, decide_eq_true_eq] at k
        have hw := rightF_enum hrf k.1.1
        generalize fieldAt l x.at_ = F at he k hw ⊢
        obtain ⟨a, b, c, d, e⟩ := F
        simp only at he k hw
        rw [he, k.1.1, k.1.2, k.2, hw]
    by_cases e : fieldAt l x.at_ = ⟨x.at_, 3, x.name, froms x.forth, 0⟩
    · rw [if_pos (key.1 e), if_pos e]
    · rw [if_neg (fun k => e (key.2 k)), if_neg e]
  simp only [h8, if_false]
  by_cases h10 : x.kind = 10
  · simp only [h10, if_true]; rw [put_one]
    by_cases e : (fieldAt l x.at_).kind = 4 <;> simp [e]
  · simp only [h10, if_false]; rw [put_one, if_pos rfl]
    have : comesL x ≠ [] := by unfold comesL; simp only [h2, h3, h6, if_false]; (repeat' split) <;> simp
    unfold comeL
    cases hc : comesL x with
    | nil => exact absurd hc this
    | cons c cs => rfl
end Go.Vm
