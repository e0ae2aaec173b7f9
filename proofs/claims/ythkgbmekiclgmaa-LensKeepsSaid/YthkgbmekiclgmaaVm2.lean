/- The plain reading, step by step: what stays behind a step; operations that read. -/
import Derived.Test.YthkgbmekiclgmaaVm1
import Derived.Deep.AppendSrc
namespace Go.Vm
open Go.RowKit
set_option linter.unusedVariables false
set_option linter.unusedSimpArgs false

section
variable {P : Program} {N base : Nat} {w0 w w' : World} {ro0 ro ro' : Roles} {blk blk' : Nat → Nat} {env env' : Env} {a : Act} {o : Oper}

/-- Nothing that was there is written; new blocks may have come. -/
structure Grow (ro ro' : Roles) (w w' : World) : Prop where
  below : Below w.heap.size w w'
  role : ∀ b, b < w.heap.size → ro' b = ro b
  new : ∀ b, w'.heap.size ≤ b → ro' b = .frozen

theorem Grow.cell (h : Grow ro ro' w w') : ∀ b off u, okAt ro b off → w.cell? ⟨b, off, none⟩ = some u → w'.cell? ⟨b, off, none⟩ = some u ∧ okAt ro' b off := by
  intro b off u hok hc
  have hlt : b < w.heap.size := World.block_lt_of_cell? w ⟨b, off, none⟩ hc
  refine ⟨by rw [h.below.cell (p := ⟨b, off, none⟩) hlt]; exact hc, ?_⟩
  unfold okAt at *; rw [h.role b hlt]; exact hok

theorem own_kept {e sz n : Nat} {v : Value} {us : List Value} (h : w.ownsRow base e sz v n us) (hb : ∀ g, v.ownBlock = some g → w'.heap[g]? = w.heap[g]?) : w'.ownsRow base e sz v n us := by
  refine ⟨h.1, ?_⟩
  rcases h.2 with h2 | ⟨g, cap, cur, h1, h2, h3, h4⟩
  · exact .inl h2
  · exact .inr ⟨g, cap, cur, h1, h2, (hb g (by rw [h1]; rfl)).trans h3, h4⟩

theorem SatC.grow {v : Value} {c : C} (h : SatC P base ro w v c) (hg : Grow ro ro' w w') : SatC P base ro' w' v c := by
  cases c with
  | d x => exact Rep.evolve hg.cell h
  | nil => exact h
  | own τ e xs =>
    obtain ⟨sz, us, h1, h2, h3, h4, h5, h6⟩ := h
    refine ⟨sz, us, h1, h2, own_kept h3 (fun g hgk => hg.below.block g (h3.lt g hgk).2), h4, h5.evolve hg.cell, fun g hgk => ?_⟩
    rw [hg.role g (h3.lt g hgk).2]; exact h6 g hgk

theorem BoxAt.lt {t b : Nat} {cs : List D} (h : BoxAt base ro w t b cs) : b < w.heap.size := by
  obtain ⟨_, _, arr, e, h3, _⟩ := h
  exact block_lt h3

theorem SatS.grow {t : Nat} {v : Value} {s : S} (h : SatS P base ro blk w t v s) (hg : Grow ro ro' w w') (hblk : ∀ t, blk' t = blk t) : SatS P base ro' blk' w' t v s := by
  obtain rfl : blk' = blk := funext hblk
  cases s with
  | junk => trivial
  | c x => exact SatC.grow h hg
  | box cs =>
    obtain ⟨h0, h1⟩ := h
    refine ⟨h0, ?_⟩
    have hlt := h1.lt
    obtain ⟨h2, h3, arr, e, h4, h5⟩ := h1
    exact ⟨h2, by rw [hg.role _ hlt]; exact h3, arr, e, (hg.below.block _ hlt).trans h4, h5.evolve hg.cell⟩
  | ref t' off => exact h
  | at_ cs off =>
    obtain ⟨b, o, us, h1, h2, h3⟩ := h
    exact ⟨b, o, us, h1, h2.evolve hg.cell, fun j u hu => hg.cell _ _ _ (h3 j u hu).2 (h3 j u hu).1⟩
  | tup cs =>
    obtain ⟨arr, h1, h2, h3⟩ := h
    exact ⟨arr, h1, h2, fun i u c hu hc => (h3 i u c hu hc).grow hg⟩

theorem Grow.refl (hn : ∀ b, w.heap.size ≤ b → ro b = .frozen) : Grow ro ro w w := ⟨Below.refl _ _, fun _ _ => rfl, hn⟩

theorem getD_put {d t : Nat} {v : Value} : ((a.put (some d) v).tmps.getD t undef) = if t = d ∧ d < a.tmps.size then v else a.tmps.getD t undef := by
  simp only [Act.put, Array.getD_eq_getD_getElem?, Array.getElem?_setIfInBounds]
  by_cases h : d = t
  · subst h
    by_cases hd : d < a.tmps.size <;> simp [hd]
  · have : ¬ t = d := fun e => h e.symm
    simp [h, this]

/-- A step that writes one slot, and memory of its own at most. -/
theorem SimM.put (h : SimM P N base w0 ro0 ro blk env a w) (hg : Grow ro ro' w w') {d : Nat} (hd : d < N) {v : Value} {s : S} (hs : SatS P base ro' blk w' d v s) :
    SimM P N base w0 ro0 ro' blk (upd env (some d) s) (a.put (some d) v) w' := by
  refine ⟨h.below.trans (hg.below.mono h.room), Nat.le_trans h.room hg.below.size, by simpa [Act.put] using h.nodef, by simpa [Act.put] using h.size, fun b hb => (hg.role b (Nat.lt_of_lt_of_le hb h.room)).trans (h.old b hb), hg.new, fun t => ?_⟩
  rw [getD_put]
  by_cases e : t = d
  · subst e
    rw [if_pos ⟨rfl, by rw [h.size]; exact hd⟩]
    simpa [upd] using hs
  · rw [if_neg (fun k => e k.1)]
    simp only [upd, if_neg e]
    exact (h.sat t).grow hg fun _ => rfl

theorem SimM.rest (h : SimM P N base w0 ro0 ro blk env a w) (hg : Grow ro ro' w w') : SimM P N base w0 ro0 ro' blk env a w' :=
  ⟨h.below.trans (hg.below.mono h.room), Nat.le_trans h.room hg.below.size, h.nodef, h.size, fun b hb => (hg.role b (Nat.lt_of_lt_of_le hb h.room)).trans (h.old b hb), hg.new, fun t => (h.sat t).grow hg fun _ => rfl⟩

/-- Whoever knows less. -/
theorem SimM.weaken (h : SimM P N base w0 ro0 ro blk env a w) (he : ∀ t, env' t = env t ∨ env' t = .junk) : SimM P N base w0 ro0 ro blk env' a w := by
  refine ⟨h.below, h.room, h.nodef, h.size, h.old, h.new, fun t => ?_⟩
  rcases he t with e | e <;> rw [e]
  · exact h.sat t
  · trivial
theorem Sim.weaken (h : Sim P N base w0 ro0 env a w) (he : ∀ t, env' t = env t ∨ env' t = .junk) : Sim P N base w0 ro0 env' a w := let ⟨ro, blk, h⟩ := h; ⟨ro, blk, h.weaken he⟩

/-! ### Operands -/

def C.asD : C → D
  | .d x => x
  | .own _ _ xs => .row xs
  | .nil => .row []

theorem SatC.rep {v : Value} {c : C} (h : SatC P base ro w v c) : Rep ro w v c.asD := by
  cases c with
  | d x => exact h
  | nil => rw [show v = .slice none 0 0 from h]; exact .nil (by simp [maxLen])
  | own τ e xs =>
    obtain ⟨sz, us, h1, h2, h3, h4, h5, h6⟩ := h
    rcases h3.2 with ⟨rfl, h7⟩ | ⟨g, cap, cur, rfl, hb, hh, hl, hm, hs, ht⟩
    · obtain rfl : xs = [] := List.length_eq_zero_iff.1 h7
      exact .nil (by simp [maxLen])
    · refine .row us h1 hl hm h3.1 h4 h5.2.1 (fun j u hj => ?_) h5.2.2
      have hc := h3.cells (g := g) rfl j u hj
      rw [add_spot] at hc
      refine ⟨hc, ?_⟩
      have hlt := (List.getElem?_eq_some_iff.1 hj).1
      unfold okAt
      rw [h6 g rfl]
      show 0 + j < xs.length * sz
      rw [h3.1] at hlt; omega

def vconst : Value → S
  | .slice none 0 0 => .c .nil
  | v => if plainV v then .c (.d (.sc v)) else .junk
def slotV (t : Nat) : S → S
  | .box _ => .ref t 0
  | s => s
def vget (env : Env) : Operand → S
  | .tmp t => slotV t (env t)
  | .const v => vconst v
  | _ => .junk

theorem sat_const (v : Value) (t : Nat) : SatS P base ro blk w t v (vconst v) := by
  unfold vconst
  split
  · rfl
  · split
    · exact Rep.sc (by assumption)
    · trivial

theorem SimM.get (h : SimM P N base w0 ro0 ro blk env a w) (x : Operand) (t : Nat) : SatS P base ro blk w t (a.eval x) (vget env x) := by
  cases x with
  | tmp u =>
    have hu := h.sat u
    show SatS P base ro blk w t (a.tmps.getD u undef) (slotV u (env u))
    cases hs : env u with
    | box cs => rw [hs] at hu; exact hu.1
    | junk => trivial
    | c x => rw [hs] at hu; exact hu
    | ref t' off => rw [hs] at hu; exact hu
    | at_ cs off => rw [hs] at hu; exact hu
    | tup cs => rw [hs] at hu; exact hu
  | const v => exact sat_const v t
  | global g => trivial
  | func f => trivial

def vd (env : Env) (x : Operand) : Option D := match vget env x with
  | .c c => some c.asD
  | _ => none

theorem SimM.getD (h : SimM P N base w0 ro0 ro blk env a w) {x : Operand} {d : D} (hx : vd env x = some d) : Rep ro w (a.eval x) d := by
  have := h.get x 0
  unfold vd at hx
  cases hs : vget env x with
  | c c => rw [hs] at this hx; injection hx with hx; subst hx; exact SatC.rep this
  | _ => rw [hs] at hx; cases hx

/-- The address through which an operation reads or writes. -/
def addrOf (o : Oper) : Option Operand := match o.op with
  | .load _ x => some x
  | .store _ x _ => some x
  | _ => none
/-- The other env says the same of what the operation looks at, and of the variable that it reads or writes. -/
def Agree (o : Oper) (env env' : Env) : Prop := (∀ x ∈ o.op.operands, vget env' x = vget env x) ∧ ∀ x t off cs, addrOf o = some x → vget env x = .ref t off → env t = .box cs → env' t = .box cs

theorem Agree.refl (o : Oper) (env : Env) : Agree o env env := ⟨fun _ _ => rfl, fun _ _ _ _ _ _ h => h⟩
theorem Agree.get (h : Agree o env env') {x : Operand} (hx : x ∈ o.op.operands) : vget env' x = vget env x := h.1 x hx
theorem Agree.getD (h : Agree o env env') {x : Operand} (hx : x ∈ o.op.operands) : vd env' x = vd env x := by unfold vd; rw [h.get hx]

/-- One step, from whatever frame and world are as env says. -/
def Step (P : Program) (N : Nat) (o : Oper) (env env' : Env) : Prop :=
  ∀ base w0 ro0 a w, Sim P N base w0 ro0 env a w → ∀ (K : Act → World → Prop) (Q : Exit → Act → World → Prop), (∀ a' w', Sim P N base w0 ro0 env' a' w' → K a' w') → o.wp P a w K Q
/-- A step that yields s, wherever what it looks at is the same. -/
def Yield (P : Program) (N : Nat) (o : Oper) (env : Env) (s : S) : Prop := ∀ env', Agree o env env' → Step P N o env' (upd env' o.dst s)

theorem Yield.step {s : S} (h : Yield P N o env s) : Step P N o env (upd env o.dst s) := h env (Agree.refl _ _)

/-- From what the operation does. -/
theorem yield_of {s : S} {d : Nat} (hdst : o.dst = some d) (hd : d < N)
    (h : ∀ env', Agree o env env' → ∀ base w0 ro0 ro blk a w, SimM P N base w0 ro0 ro blk env' a w → ∃ v w' ro', (execOp a.eval o).run P w = .ok (.value v) w' ∧ Grow ro ro' w w' ∧ SatS P base ro' blk w' d v s) : Yield P N o env s := by
  intro env' he base w0 ro0 a w ⟨ro, blk, hs⟩ K Q hK
  obtain ⟨v, w', ro', h1, h2, h3⟩ := h env' he base w0 ro0 ro blk a w hs
  unfold Oper.wp
  rw [h1, Oper.upon_value]
  refine hK _ _ ⟨ro', blk, ?_⟩
  rw [hdst]
  exact hs.put h2 hd h3

theorem sat_any {t t' : Nat} {v : Value} {s : S} (h : SatS P base ro blk w t v s) (hs : ∀ cs, s ≠ .box cs) : SatS P base ro blk w t' v s := by
  cases s with
  | box cs => exact absurd rfl (hs cs)
  | _ => exact h

theorem y_move {x : Operand} {s : S} (hop : o.op = .move x) (hx : vget env x = s) {d : Nat} (hdst : o.dst = some d) (hd : d < N) : Yield P N o env s := by
  refine yield_of hdst hd fun env' he base w0 ro0 ro blk a w hs => ⟨a.eval x, w, ro, by simp [execOp, hop], Grow.refl hs.new, ?_⟩
  have := hs.get x d
  rwa [he.get (by simp [hop, Op.operands]), hx] at this
theorem y_assign {x : Operand} {s : S} (hop : o.op = .assign x) (hx : vget env x = s) {d : Nat} (hdst : o.dst = some d) (hd : d < N) : Yield P N o env s := by
  refine yield_of hdst hd fun env' he base w0 ro0 ro blk a w hs => ⟨a.eval x, w, ro, by simp [execOp, hop], Grow.refl hs.new, ?_⟩
  have := hs.get x d
  rwa [he.get (by simp [hop, Op.operands]), hx] at this

theorem rep_sc {v u : Value} (h : Rep ro w v (.sc u)) : v = u ∧ plainV u = true := by
  cases h with
  | sc h => exact ⟨rfl, h⟩

theorem y_pick {x y z : Operand} {b : Bool} {s : S} (hop : o.op = .pick x y z) (hx : vd env x = some (.sc (.bool b))) (hs : (if b then vget env y else vget env z) = s) {d : Nat} (hdst : o.dst = some d) (hd : d < N) : Yield P N o env s := by
  refine yield_of hdst hd fun env' he base w0 ro0 ro blk a w hsim => ⟨if b then a.eval y else a.eval z, w, ro, ?_, Grow.refl hsim.new, ?_⟩
  · have h1 := hsim.getD (x := x) (by rw [he.getD (by simp [hop, Op.operands])]; exact hx)
    have := (rep_sc h1).1
    simp [execOp, hop, this, asBool]
  · have h1 := hsim.get y d
    have h2 := hsim.get z d
    rw [he.get (by simp [hop, Op.operands])] at h1 h2
    cases b
    · simp only [Bool.false_eq_true, if_false] at hs ⊢; rw [← hs]; exact h2
    · simp only [if_true] at hs ⊢; rw [← hs]; exact h1

/-- Arithmetic, comparison, conversion: whatever hangs on plain values alone. -/
theorem y_bin {op : BinOp} {t t' : TypeId} {x y : Operand} {u v r : Value} (hop : o.op = .binOp op t x y t') (hx : vd env x = some (.sc u)) (hy : vd env y = some (.sc v))
    (hr : ∀ w : World, (do eqGuard op t x y u v; binOp op t u v : Sem Value).run P w = .ok r w) (hpl : plainV r = true) {d : Nat} (hdst : o.dst = some d) (hd : d < N) : Yield P N o env (.c (.d (.sc r))) := by
  refine yield_of hdst hd fun env' he base w0 ro0 ro blk a w hsim => ⟨r, w, ro, ?_, Grow.refl hsim.new, Rep.sc hpl⟩
  have h1 := (rep_sc (hsim.getD (x := x) (by rw [he.getD (by simp [hop, Op.operands])]; exact hx))).1
  have h2 := (rep_sc (hsim.getD (x := y) (by rw [he.getD (by simp [hop, Op.operands])]; exact hy))).1
  have h3 := hr w
  simp only [execOp, hop, h1, h2, Sem.run_bind, Sem.run_pure] at h3 ⊢
  rw [h3]; rfl
theorem y_un {op : UnOp} {t : TypeId} {x : Operand} {u r : Value} (hop : o.op = .unOp op t x) (hx : vd env x = some (.sc u))
    (hr : ∀ w : World, (Op.unary op u).run P w = .ok r w) (hpl : plainV r = true) {d : Nat} (hdst : o.dst = some d) (hd : d < N) : Yield P N o env (.c (.d (.sc r))) := by
  refine yield_of hdst hd fun env' he base w0 ro0 ro blk a w hsim => ⟨r, w, ro, ?_, Grow.refl hsim.new, Rep.sc hpl⟩
  have h1 := (rep_sc (hsim.getD (x := x) (by rw [he.getD (by simp [hop, Op.operands])]; exact hx))).1
  have h3 := hr w
  simp only [execOp, hop, h1, Sem.run_bind, Sem.run_pure] at h3 ⊢
  rw [h3]; rfl
theorem y_conv {t t' : TypeId} {x : Operand} {u r : Value} (hop : o.op = .convert t t' x) (hx : vd env x = some (.sc u))
    (hr : ∀ w : World, (convert t t' u).run P w = .ok r w) (hpl : plainV r = true) {d : Nat} (hdst : o.dst = some d) (hd : d < N) : Yield P N o env (.c (.d (.sc r))) := by
  refine yield_of hdst hd fun env' he base w0 ro0 ro blk a w hsim => ⟨r, w, ro, ?_, Grow.refl hsim.new, Rep.sc hpl⟩
  have h1 := (rep_sc (hsim.getD (x := x) (by rw [he.getD (by simp [hop, Op.operands])]; exact hx))).1
  have h3 := hr w
  simp only [execOp, hop, h1, Sem.run_bind, Sem.run_pure] at h3 ⊢
  rw [h3]; rfl
end
end Go.Vm
