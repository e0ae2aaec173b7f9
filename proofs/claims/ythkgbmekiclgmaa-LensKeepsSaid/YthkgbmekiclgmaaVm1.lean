/- A second, plain reading of memory: values without addresses (D), and what it is that a value in a world reads as such (Rep). -/
import Derived.Test.YthkgbmekiclgmaaHeap
import Derived.Laws.CopyRow
import Derived.Laws.Cells
namespace Go.Vm
open Go.RowKit
set_option linter.unusedVariables false
set_option linter.unusedSimpArgs false

/-- A value without addresses: of one cell; a struct's or an array's cells; a slice's elements. -/
inductive D where
  | sc (v : Value)
  | agg (cs : List D)
  | row (xs : List D)

instance : Inhabited D := ⟨.row []⟩

def D.cells : D → List D
  | .agg cs => cs
  | d => [d]
/-- The cells of all elements, one behind the other. -/
def flat (xs : List D) : List D := xs.flatMap D.cells

theorem flat_append (xs ys : List D) : flat (xs ++ ys) = flat xs ++ flat ys := by simp [flat]
theorem flat_length {sz : Nat} : ∀ {xs : List D}, (∀ x ∈ xs, x.cells.length = sz) → (flat xs).length = xs.length * sz
  | [], _ => by simp [flat]
  | x :: xs, h => by
    have := flat_length (xs := xs) (fun y hy => h y (List.mem_cons_of_mem _ hy))
    have hx := h x (List.mem_cons_self ..)
    simp only [flat, List.flatMap_cons, List.length_append, List.length_cons] at this ⊢
    rw [this, hx, Nat.add_mul, Nat.one_mul, Nat.add_comm]
theorem flat_at {sz : Nat} : ∀ {xs : List D} {i : Nat} {x : D} {j : Nat} {c : D}, (∀ x ∈ xs, x.cells.length = sz) → xs[i]? = some x → x.cells[j]? = some c → (flat xs)[i * sz + j]? = some c
  | [], i, x, j, c, _, hx, _ => by simp at hx
  | y :: ys, 0, x, j, c, h, hx, hc => by
    simp only [List.getElem?_cons_zero, Option.some.injEq] at hx
    subst hx
    have hj := (List.getElem?_eq_some_iff.1 hc).1
    simp only [flat, List.flatMap_cons, Nat.zero_mul, Nat.zero_add]
    rw [List.getElem?_append_left hj]; exact hc
  | y :: ys, i + 1, x, j, c, h, hx, hc => by
    have hy := h y (List.mem_cons_self ..)
    have ih := flat_at (xs := ys) (fun z hz => h z (List.mem_cons_of_mem _ hz)) (by simpa using hx) hc
    have e : (i + 1) * sz + j = sz + (i * sz + j) := by rw [Nat.add_mul, Nat.one_mul]; omega
    simp only [flat, List.flatMap_cons] at ih ⊢
    rw [e, List.getElem?_append_right (by omega), hy]
    simpa using ih

/-- Values of one cell that bear no address. -/
def plainV : Value → Bool
  | .bool _ | .int .. | .float .. | .complex .. | .string _ | .nilFunc | .nilIface => true
  | .pointer none | .map none => true
  | _ => false

theorem plainV_one {v : Value} (h : plainV v = true) : v.oneCell' = true := by
  cases v <;> simp_all [plainV, Value.oneCell']

/-- What a block is in a call: nobody writes it; a variable's of the call; a row that the call may append to, so far filled up to n. -/
inductive Role where
  | frozen
  | box (t : Nat)
  | row (τ n : Nat)
abbrev Roles := Nat → Role
/-- A cell that nobody writes. -/
def okAt (ro : Roles) (b off : Nat) : Prop :=
  match ro b with
  | .frozen => True
  | .box _ => False
  | .row _ n => off < n

inductive Rep (ro : Roles) (w : World) : Value → D → Prop
  | sc {v : Value} (h : plainV v = true) : Rep ro w v (.sc v)
  | agg {arr : Array Value} {cs : List D} (hl : arr.size = cs.length) (h1 : ∀ u ∈ arr.toList, u.oneCell' = true)
      (h : ∀ (i : Nat) (u : Value) (c : D), arr.toList[i]? = some u → cs[i]? = some c → Rep ro w u c) : Rep ro w (.agg arr) (.agg cs)
  | nil {a : Option Addr} {cap : Nat} (hm : cap ≤ maxLen) : Rep ro w (.slice a 0 cap) (.row [])
  | row {b off cap sz : Nat} {xs : List D} (us : List Value) (hsz : 0 < sz) (hlen : xs.length ≤ cap) (hm : cap ≤ maxLen) (hus : us.length = xs.length * sz) (hw : ∀ x ∈ xs, x.cells.length = sz)
      (h1 : ∀ u ∈ us, u.oneCell' = true) (hcell : ∀ (j : Nat) (u : Value), us[j]? = some u → w.cell? ⟨b, off + j, none⟩ = some u ∧ okAt ro b (off + j))
      (h : ∀ (j : Nat) (u : Value) (c : D), us[j]? = some u → (flat xs)[j]? = some c → Rep ro w u c) : Rep ro w (.slice (some ⟨b, off, none⟩) xs.length cap) (.row xs)

/-- What reads as data reads so behind whatever leaves the cells that nobody writes. -/
theorem Rep.evolve {ro ro' : Roles} {w w' : World} (hc : ∀ b off u, okAt ro b off → w.cell? ⟨b, off, none⟩ = some u → w'.cell? ⟨b, off, none⟩ = some u ∧ okAt ro' b off) {v : Value} {d : D} (h : Rep ro w v d) : Rep ro' w' v d := by
  induction h with
  | sc h => exact .sc h
  | agg hl h1 _ ih => exact .agg hl h1 ih
  | nil hm => exact .nil hm
  | row us hsz hlen hm hus hw h1 hcell _ ih =>
    exact .row us hsz hlen hm hus hw h1 (fun j u hj => hc _ _ _ (hcell j u hj).2 (hcell j u hj).1) ih

def Reps (ro : Roles) (w : World) (us : List Value) (cs : List D) : Prop :=
  us.length = cs.length ∧ (∀ u ∈ us, u.oneCell' = true) ∧ ∀ (j : Nat) (u : Value) (c : D), us[j]? = some u → cs[j]? = some c → Rep ro w u c

theorem Reps.evolve {ro ro' : Roles} {w w' : World} (hc : ∀ b off u, okAt ro b off → w.cell? ⟨b, off, none⟩ = some u → w'.cell? ⟨b, off, none⟩ = some u ∧ okAt ro' b off) {us : List Value} {cs : List D} (h : Reps ro w us cs) : Reps ro' w' us cs :=
  ⟨h.1, h.2.1, fun j u c hu hd => (h.2.2 j u c hu hd).evolve hc⟩
theorem Reps.append {ro : Roles} {w : World} {us vs : List Value} {cs ds : List D} (h : Reps ro w us cs) (k : Reps ro w vs ds) : Reps ro w (us ++ vs) (cs ++ ds) := by
  refine ⟨by simp [h.1, k.1], ?_, ?_⟩
  · intro u hu
    rcases List.mem_append.1 hu with hu | hu
    · exact h.2.1 u hu
    · exact k.2.1 u hu
  · intro j u c hu hc
    by_cases hj : j < us.length
    · rw [List.getElem?_append_left hj] at hu
      rw [List.getElem?_append_left (by rw [← h.1]; exact hj)] at hc
      exact h.2.2 j u c hu hc
    · rw [List.getElem?_append_right (by omega)] at hu
      rw [List.getElem?_append_right (by rw [← h.1]; omega), ← h.1] at hc
      exact k.2.2 _ u c hu hc
theorem Reps.nil {ro : Roles} {w : World} : Reps ro w [] [] := ⟨rfl, by simp, by simp⟩
theorem Reps.drop {ro : Roles} {w : World} {us : List Value} {cs : List D} (h : Reps ro w us cs) (n : Nat) : Reps ro w (us.drop n) (cs.drop n) :=
  ⟨by simp [h.1], fun u hu => h.2.1 u (List.mem_of_mem_drop hu), fun j u c hu hc => h.2.2 (n + j) u c (by rw [← List.getElem?_drop]; exact hu) (by rw [← List.getElem?_drop]; exact hc)⟩
theorem Reps.take {ro : Roles} {w : World} {us : List Value} {cs : List D} (h : Reps ro w us cs) (n : Nat) : Reps ro w (us.take n) (cs.take n) := by
  refine ⟨by simp [h.1], fun u hu => h.2.1 u (List.mem_of_mem_take hu), fun j u c hu hc => ?_⟩
  rw [List.getElem?_take] at hu hc
  split at hu
  · rw [if_pos (by assumption)] at hc; exact h.2.2 j u c hu hc
  · cases hu

/-- A value of one cell or of many, and its cells. -/
theorem Rep.cells {ro : Roles} {w : World} {v : Value} {d : D} (h : Rep ro w v d) : Reps ro w v.cells.toList d.cells := by
  cases h with
  | sc h =>
    have hone := plainV_one h
    have e : v.cells = #[v] := by cases v <;> simp_all [Value.cells, Value.oneCell']
    rw [e]
    refine ⟨rfl, by simpa using hone, fun j u c hu hc => ?_⟩
    cases j with
    | zero => simp [D.cells] at hu hc; subst hu hc; exact .sc h
    | succ j => simp at hu
  | agg hl h1 h => exact ⟨by simpa [Value.cells, D.cells] using hl, by simpa [Value.cells] using h1, by simpa [Value.cells, D.cells] using h⟩
  | nil hm =>
    refine ⟨rfl, by simp [Value.cells, Value.oneCell'], fun j u c hu hc => ?_⟩
    cases j with
    | zero => simp [D.cells, Value.cells] at hu hc; subst hu hc; exact .nil hm
    | succ j => simp [Value.cells] at hu
  | row us hsz hlen hm hus hw h1 hcell h =>
    refine ⟨rfl, by simp [Value.cells, Value.oneCell'], fun j u c hu hc => ?_⟩
    cases j with
    | zero => simp [D.cells, Value.cells] at hu hc; subst hu hc; exact .row us hsz hlen hm hus hw h1 hcell h
    | succ j => simp [Value.cells] at hu

/-- A call's value: data; a slice that may be appended to (its right's name, its elements' type); nil. -/
inductive C where
  | d (x : D)
  | own (τ : Nat) (e : TypeId) (xs : List D)
  | nil
/-- What lies in a slot: nobody knows; a value; a variable's address (and what lies there); an address inside slot t's variable; one of cells that nobody writes; several values. -/
inductive S where
  | junk
  | c (x : C)
  | box (cs : List D)
  | ref (t off : Nat)
  | at_ (cs : List D) (off : Nat)
  | tup (cs : List C)
instance : Inhabited S := ⟨.junk⟩
abbrev Env := Nat → S
def upd (env : Env) (t : Option Nat) (s : S) : Env := match t with
  | none => env
  | some t => fun u => if u = t then s else env u

def SatC (P : Program) (base : Nat) (ro : Roles) (w : World) (v : Value) : C → Prop
  | .d x => Rep ro w v x
  | .nil => v = .slice none 0 0
  | .own τ e xs => ∃ sz us, 0 < sz ∧ P.cellsOf e = sz ∧ w.ownsRow base e sz v xs.length us ∧ (∀ x ∈ xs, x.cells.length = sz) ∧ Reps ro w us (flat xs) ∧ (∀ g, v.ownBlock = some g → ro g = .row τ (xs.length * sz))

/-- A variable of the call's own. -/
def BoxAt (base : Nat) (ro : Roles) (w : World) (t b : Nat) (cs : List D) : Prop :=
  base ≤ b ∧ ro b = .box t ∧ ∃ arr e, w.heap[b]? = some (.cells arr e (0, 0)) ∧ Reps ro w arr.toList cs

def SatS (P : Program) (base : Nat) (ro : Roles) (blk : Nat → Nat) (w : World) (t : Nat) (v : Value) : S → Prop
  | .junk => True
  | .c x => SatC P base ro w v x
  | .box cs => v = .pointer (some ⟨blk t, 0, none⟩) ∧ BoxAt base ro w t (blk t) cs
  | .ref t' off => v = .pointer (some ⟨blk t', off, none⟩)
  | .at_ cs off => ∃ b o us, v = .pointer (some ⟨b, o + off, none⟩) ∧ Reps ro w us cs ∧ ∀ (j : Nat) (u : Value), us[j]? = some u → w.cell? ⟨b, o + j, none⟩ = some u ∧ okAt ro b (o + j)
  | .tup cs => ∃ arr : Array Value, v = .tuple arr ∧ arr.size = cs.length ∧ ∀ (i : Nat) (u : Value) (c : C), arr.toList[i]? = some u → cs[i]? = some c → SatC P base ro w u c

/-- The call's frame and world are as env says. N: how many slots it has; base, w0, ro0: where the call's own memory begins, the world and the blocks' roles when it began. -/
structure SimM (P : Program) (N base : Nat) (w0 : World) (ro0 ro : Roles) (blk : Nat → Nat) (env : Env) (a : Act) (w : World) : Prop where
  below : Below base w0 w
  room : base ≤ w.heap.size
  nodef : a.defers = []
  size : a.tmps.size = N
  old : ∀ b, b < base → ro b = ro0 b
  new : ∀ b, w.heap.size ≤ b → ro b = .frozen
  sat : ∀ t, SatS P base ro blk w t (a.tmps.getD t undef) (env t)

def Sim (P : Program) (N base : Nat) (w0 : World) (ro0 : Roles) (env : Env) (a : Act) (w : World) : Prop := ∃ ro blk, SimM P N base w0 ro0 ro blk env a w
end Go.Vm
