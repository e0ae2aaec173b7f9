/- Places, fields, schemas and lenses as plain data, and what the chapters 13 to 15 say of them. -/
import Derived.Test.YthkgbmekiclgmaaVmA
import Derived.Laws.StructEq
namespace Go.Vm
set_option linter.unusedVariables false
set_option linter.unusedSimpArgs false

instance lawfulBytes : LawfulBEq ByteArray where
  eq_of_beq := by intro a b h; rw [beq_toListBytes, eq_strs] at h; exact of_decide_eq_true h
  rfl := by intro a; rw [beq_toListBytes, eq_strs]; simp

structure RefD where
  scope : Int
  group : ByteArray
  name : ByteArray
  deriving DecidableEq
structure FieldD where
  at_ : RefD
  kind : Int
  deft : ByteArray
  cases : List ByteArray
  worth : Int
  deriving DecidableEq
structure LensD where
  kind : Int
  at_ : RefD
  name : ByteArray
  other : ByteArray
  factor : Int
  field : FieldD
  forth : List (ByteArray × ByteArray)
  back : List (ByteArray × ByteArray)
  deriving DecidableEq
abbrev noB : ByteArray := ⟨#[]⟩
def noRef : RefD := ⟨0, noB, noB⟩
def noField : FieldD := ⟨noRef, 0, noB, [], 0⟩
def noLens : LensD := ⟨0, noRef, noB, noB, 0, noField, [], []⟩

def pairD (p : ByteArray × ByteArray) : D := .agg [.sc (.string p.1), .sc (.string p.2)]
def rD (r : RefD) : D := .agg [.sc (.int .i64 r.scope), .sc (.string r.group), .sc (.string r.name)]
def fD (f : FieldD) : D := .agg [.sc (.int .i64 f.at_.scope), .sc (.string f.at_.group), .sc (.string f.at_.name), .sc (.int .i64 f.kind), .sc (.string f.deft), .row (f.cases.map strD), .sc (.int .i64 f.worth)]
def lD (x : LensD) : D := .agg [.sc (.int .i64 x.kind), .sc (.int .i64 x.at_.scope), .sc (.string x.at_.group), .sc (.string x.at_.name), .sc (.string x.name), .sc (.string x.other), .sc (.int .i64 x.factor),
  .sc (.int .i64 x.field.at_.scope), .sc (.string x.field.at_.group), .sc (.string x.field.at_.name), .sc (.int .i64 x.field.kind), .sc (.string x.field.deft), .row (x.field.cases.map strD), .sc (.int .i64 x.field.worth), .row (x.forth.map pairD), .row (x.back.map pairD)]

/-! ### Parts -/
theorem pd_fr (f : FieldD) : partD (true, 3) (fD f).cells 0 = some (rD f.at_) := rfl
theorem pd_f (f : FieldD) : partD (true, 7) (fD f).cells 0 = some (fD f) := rfl
theorem pd_r (r : RefD) : partD (true, 3) (rD r).cells 0 = some (rD r) := rfl
theorem pd_l (x : LensD) : partD (true, 16) (lD x).cells 0 = some (lD x) := rfl
theorem pd_lr (x : LensD) : partD (true, 3) (lD x).cells 1 = some (rD x.at_) := rfl
theorem pd_lf (x : LensD) : partD (true, 7) (lD x).cells 7 = some (fD x.field) := rfl
theorem pd_lfr (x : LensD) : partD (true, 3) (lD x).cells 7 = some (rD x.field.at_) := rfl
theorem pd_p (p : ByteArray × ByteArray) : partD (true, 2) (pairD p).cells 0 = some (pairD p) := rfl

/-! ### Names -/
/-- May this byte stand there in a name? -/
def charB (c : Int) (j : Nat) : Bool := (decide (97 ≤ c) && decide (c ≤ 122)) || (decide (48 ≤ c) && decide (c ≤ 57) && !decide (j = 0))
def okTo (s : ByteArray) (k : Nat) : Prop := ∀ j (b : UInt8), j < k → s[j]? = some b → charB b.toNat j = true
/-- Is it a name? -/
def nameB (s : ByteArray) : Bool := decide (1 ≤ s.size ∧ s.size ≤ 12) && (List.range s.size).all fun j => match s[j]? with
  | some b => charB b.toNat j
  | none => true
theorem name_yes {s : ByteArray} {k : Nat} (h1 : 1 ≤ s.size) (h2 : s.size ≤ 12) (hk : s.size ≤ k) (h : okTo s k) : nameB s = true := by
  unfold nameB
  rw [decide_eq_true (show 1 ≤ s.size ∧ s.size ≤ 12 from ⟨h1, h2⟩), Bool.true_and, List.all_eq_true]
  intro j hj
  split
  · rename_i b hb; exact h j b (by have := List.mem_range.1 hj; omega) hb
  · rfl
theorem name_no {s : ByteArray} {j : Nat} {b : UInt8} (hj : j < s.size) (hb : s[j]? = some b) (h : charB b.toNat j = false) : nameB s = false := by
  unfold nameB
  rw [Bool.and_eq_false_iff]
  right
  rw [List.all_eq_false]
  exact ⟨j, List.mem_range.2 hj, by rw [hb]; simp [h]⟩
theorem name_short {s : ByteArray} (h : s.size < 1) : nameB s = false := by unfold nameB; rw [decide_eq_false (fun k => by omega)]; rfl
theorem name_long {s : ByteArray} (h : 12 < s.size) : nameB s = false := by unfold nameB; rw [decide_eq_false (fun k => by omega)]; rfl
theorem okTo_zero (s : ByteArray) : okTo s 0 := fun j b hj => by omega
theorem okTo_next {s : ByteArray} {k : Nat} {b : UInt8} (h : okTo s k) (hb : s[k]? = some b) (hc : charB b.toNat k = true) : okTo s (k + 1) := by
  intro j b' hj hb'
  by_cases e : j = k
  · subst e; rw [hb] at hb'; injection hb' with e; subst e; exact hc
  · exact h j b' (by omega) hb'
theorem char_at {s : ByteArray} {k : Nat} (h : decide ((k : Int) < (s.size : Int)) = true) : ∃ b, s[k]? = some b := by
  have : k < s.size := by have := of_decide_eq_true h; omega
  exact ⟨s[k], by simp [this]⟩
theorem char_lt {s : ByteArray} {k : Nat} {b : UInt8} (h : s[k]? = some b) : k < s.size := by
  rcases Nat.lt_or_ge k s.size with h1 | h1
  · exact h1
  · simp [show ¬ k < s.size by omega] at h
theorem char_ix {s : ByteArray} {k : Nat} {b : UInt8} (h : s[k]? = some b) : s[((k : Nat) : Int).toNat]? = some b := by rw [Int.toNat_natCast]; exact h

/-! ### Places -/
def placeB (r : RefD) : Bool := (decide (r.scope = 0) || decide (r.scope = 1)) && nameB r.name && (decide (r.group = noB) || nameB r.group)
def ltB (a b : ByteArray) : Bool := Op.bytesLess a.toList b.toList
def lessB (a b : RefD) : Bool := if a.scope ≠ b.scope then decide (a.scope < b.scope) else if a.group ≠ b.group then ltB a.group b.group else ltB a.name b.name

/-! ### Fields -/
def okC (l : List ByteArray) (k : Nat) : Bool := (List.range k).all fun j => match l[j]? with
  | some c => nameB c && !decide (c ∈ l.take j)
  | none => true
/-- May these be an enum's cases? -/
def casesB (l : List ByteArray) : Bool := decide (1 ≤ l.length) && decide (l.length ≤ 6) && okC l l.length
theorem okC_zero (l : List ByteArray) : okC l 0 = true := rfl
theorem okC_next {l : List ByteArray} {k : Nat} {p : ByteArray} (hp : l[k]? = some p) (h : okC l k = true) (h1 : nameB p = true) (h2 : ¬ p ∈ l.take k) : okC l (k + 1) = true := by
  unfold okC at *
  rw [List.range_succ, List.all_append, h]
  simp [hp, h1, h2]
theorem cases_no {l : List ByteArray} {k : Nat} {p : ByteArray} (hp : l[k]? = some p) (h : (nameB p && !decide (p ∈ l.take k)) = false) : casesB l = false := by
  unfold casesB
  rw [Bool.and_eq_false_iff]
  right
  unfold okC
  rw [List.all_eq_false]
  exact ⟨k, List.mem_range.2 (List.getElem?_eq_some_iff.1 hp).1, by simp only [hp, h]; simp⟩
theorem cases_yes {l : List ByteArray} {k : Nat} (h1 : 1 ≤ l.length) (h2 : l.length ≤ 6) (hk : l.length ≤ k) (h : okC l k = true) : casesB l = true := by
  unfold casesB
  rw [decide_eq_true h1, decide_eq_true h2, Bool.true_and, Bool.true_and]
  unfold okC at *
  rw [List.all_eq_true] at *
  intro j hj
  exact h j (List.mem_range.2 (by have := List.mem_range.1 hj; omega))
theorem okC_end {l : List ByteArray} {k : Nat} (hk : l.length ≤ k) (h : okC l k = true) : okC l l.length = true := by
  unfold okC at *
  rw [List.all_eq_true] at *
  intro j hj
  exact h j (List.mem_range.2 (by have := List.mem_range.1 hj; omega))
theorem cases_short {l : List ByteArray} (h : l.length < 1) : casesB l = false := by unfold casesB; rw [decide_eq_false (by omega)]; rfl
theorem cases_long {l : List ByteArray} (h : 6 < l.length) : casesB l = false := by unfold casesB; rw [decide_eq_false (show ¬ l.length ≤ 6 by omega), Bool.and_false]; rfl
/-- Is a field right? -/
def rightF (f : FieldD) : Bool := placeB f.at_ &&
  (if f.kind = 1 then decide (f.deft = noB) && decide (f.cases.length = 0) && decide (1 ≤ f.worth) && decide (f.worth ≤ 1048576)
   else if f.kind = 2 then decide (f.deft.size ≤ 40) && decide (f.cases.length = 0) && decide (f.worth = 0)
   else if f.kind = 3 then casesB f.cases && decide (f.deft ∈ f.cases) && decide (f.worth = 0)
   else if f.kind = 4 then decide (f.deft = noB) && decide (f.cases.length = 0) && decide (f.worth = 0)
   else false)
theorem rightF_bare {f : FieldD} (h1 : ¬ f.kind = 1) (h3 : ¬ f.kind = 3) (hc : 0 < f.cases.length) : rightF f = false := by
  unfold rightF
  rw [Bool.and_eq_false_iff]
  right
  rw [if_neg h1]
  have h0 : decide (f.cases.length = 0) = false := decide_eq_false (by omega)
  by_cases h2 : f.kind = 2
  · rw [if_pos h2, h0, Bool.and_false, Bool.false_and]
  · rw [if_neg h2, if_neg h3]
    by_cases h4 : f.kind = 4
    · rw [if_pos h4, h0, Bool.and_false, Bool.false_and]
    · rw [if_neg h4]
end Go.Vm
