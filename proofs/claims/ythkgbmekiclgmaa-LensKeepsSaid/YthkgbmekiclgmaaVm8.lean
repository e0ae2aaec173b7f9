/- The plain reading: steps as a walk takes them; what hangs on no world. -/
import Derived.Test.YthkgbmekiclgmaaVm7
namespace Go.Vm
open Go.RowKit
set_option linter.unusedVariables false
set_option linter.unusedSimpArgs false

/-- What hangs on no world. -/
def pureRun {α : Type} (P : Program) : Sem α → Option α
  | .pure a => some a
  | .program k => pureRun P (k P)
  | .mark _ k => pureRun P k
  | _ => none
theorem pureRun_run {α : Type} {P : Program} : ∀ {s : Sem α} {r : α}, pureRun P s = some r → ∀ w : World, s.run P w = .ok r w
  | .pure a, r, h, w => by simp [pureRun] at h; subst h; rfl
  | .program k, r, h, w => by simp only [pureRun] at h; simp only [Sem.run]; exact pureRun_run h w
  | .mark _ k, r, h, w => by simp only [pureRun] at h; simp only [Sem.run]; exact pureRun_run h w
  | .load .., _, h, _ => by simp [pureRun] at h
  | .store .., _, h, _ => by simp [pureRun] at h
  | .new .., _, h, _ => by simp [pureRun] at h
  | .shape .., _, h, _ => by simp [pureRun] at h
  | .freeze .., _, h, _ => by simp [pureRun] at h
  | .frozen .., _, h, _ => by simp [pureRun] at h
  | .getObj .., _, h, _ => by simp [pureRun] at h
  | .setObj .., _, h, _ => by simp [pureRun] at h
  | .choose .., _, h, _ => by simp [pureRun] at h
  | .sys .., _, h, _ => by simp [pureRun] at h
  | .halt .., _, h, _ => by simp [pureRun] at h

/-- A value that bears no address, as it is. -/
def scs : List D → Option (List Value)
  | [] => some []
  | .sc v :: l => (scs l).map (v :: ·)
  | _ => none
def conc : D → Option Value
  | .sc v => some v
  | .agg cs => (scs cs).map fun vs => .agg vs.toArray
  | .row _ => none

section
variable {P : Program} {N base : Nat} {w0 w w' : World} {ro0 ro ro' : Roles} {blk blk' : Nat → Nat} {env env' : Env} {a : Act} {o : Oper} {ops : Array Oper} {Q : Exit → Env → Prop}

theorem scs_rep : ∀ {cs : List D} {vs us : List Value}, scs cs = some vs → us.length = cs.length → (∀ (i : Nat) (u : Value) (c : D), us[i]? = some u → cs[i]? = some c → Rep ro w u c) → us = vs
  | [], vs, us, h, hl, _ => by simp [scs] at h; subst h; exact List.length_eq_zero_iff.1 (by simpa using hl)
  | .sc v :: cs, vs, us, h, hl, hr => by
    simp only [scs, Option.map_eq_some_iff] at h
    obtain ⟨vs', h1, rfl⟩ := h
    match us, hl, hr with
    | [], hl, _ => simp at hl
    | u :: us, hl, hr =>
      have h0 := (rep_sc (hr 0 u (.sc v) rfl rfl)).1
      have ih := scs_rep h1 (by simpa using hl) (fun i u c hu hc => hr (i + 1) u c (by simpa using hu) (by simpa using hc))
      rw [h0, ih]
  | .agg _ :: cs, vs, us, h, _, _ => by simp [scs] at h
  | .row _ :: cs, vs, us, h, _, _ => by simp [scs] at h
theorem rep_conc {v u : Value} {d : D} (h : Rep ro w v d) (hc : conc d = some u) : v = u := by
  cases d with
  | sc x => simp [conc] at hc; subst hc; exact (rep_sc h).1
  | agg cs =>
    simp only [conc, Option.map_eq_some_iff] at hc
    obtain ⟨vs, h1, rfl⟩ := hc
    cases h with
    | agg hl h1' hr =>
      have := scs_rep h1 (by simpa using hl) hr
      rw [← this]
  | row xs => simp [conc] at hc

def vc1 (env : Env) (x : Operand) : Option Value := match vd env x with
  | some d => conc d
  | none => none
theorem SimM.getC (h : SimM P N base w0 ro0 ro blk env a w) {x : Operand} {u : Value} (hx : vc1 env x = some u) : a.eval x = u := by
  unfold vc1 at hx
  split at hx
  · rename_i d hd; exact rep_conc (h.getD hd) hx
  · cases hx
theorem Agree.getC (h : Agree o env env') {x : Operand} (hx : x ∈ o.op.operands) : vc1 env' x = vc1 env x := by unfold vc1; rw [h.getD hx]

theorem y_binop {op : BinOp} {t t' : TypeId} {x y : Operand} {u v r : Value} (hop : o.op = .binOp op t x y t') (hx : vc1 env x = some u) (hy : vc1 env y = some v)
    (hr : pureRun P (do eqGuard op t x y u v; binOp op t u v : Sem Value) = some r) (hpl : plainV r = true) {d : Nat} (hdst : o.dst = some d) (hd : d < N) : Yield P N o env (.c (.d (.sc r))) := by
  refine yield_of hdst hd fun env' he base w0 ro0 ro blk a w hsim => ⟨r, w, ro, ?_, Grow.refl hsim.new, Rep.sc hpl⟩
  have h1 := hsim.getC (x := x) (by rw [he.getC (by simp [hop, Op.operands])]; exact hx)
  have h2 := hsim.getC (x := y) (by rw [he.getC (by simp [hop, Op.operands])]; exact hy)
  have h3 := pureRun_run hr w
  simp only [execOp, hop, h1, h2, Sem.run_bind, Sem.run_pure] at h3 ⊢
  rw [h3]; rfl
theorem y_binW {op : BinOp} {t t' : TypeId} {x y : Operand} {u v r : Value} (hop : o.op = .binOp op t x y t') (hx : vc1 env x = some u) (hy : vc1 env y = some v)
    (hr : ∀ w : World, (do eqGuard op t x y u v; binOp op t u v : Sem Value).run P w = .ok r w) (hpl : plainV r = true) {d : Nat} (hdst : o.dst = some d) (hd : d < N) : Yield P N o env (.c (.d (.sc r))) := by
  refine yield_of hdst hd fun env' he base w0 ro0 ro blk a w hsim => ⟨r, w, ro, ?_, Grow.refl hsim.new, Rep.sc hpl⟩
  have h1 := hsim.getC (x := x) (by rw [he.getC (by simp [hop, Op.operands])]; exact hx)
  have h2 := hsim.getC (x := y) (by rw [he.getC (by simp [hop, Op.operands])]; exact hy)
  have h3 := hr w
  simp only [execOp, hop, h1, h2, Sem.run_bind, Sem.run_pure] at h3 ⊢
  rw [h3]; rfl
theorem y_unop {op : UnOp} {t : TypeId} {x : Operand} {u r : Value} (hop : o.op = .unOp op t x) (hx : vc1 env x = some u)
    (hr : pureRun P (Op.unary op u) = some r) (hpl : plainV r = true) {d : Nat} (hdst : o.dst = some d) (hd : d < N) : Yield P N o env (.c (.d (.sc r))) := by
  refine yield_of hdst hd fun env' he base w0 ro0 ro blk a w hsim => ⟨r, w, ro, ?_, Grow.refl hsim.new, Rep.sc hpl⟩
  have h1 := hsim.getC (x := x) (by rw [he.getC (by simp [hop, Op.operands])]; exact hx)
  have h3 := pureRun_run hr w
  simp only [execOp, hop, h1, Sem.run_bind, Sem.run_pure] at h3 ⊢
  rw [h3]; rfl
theorem y_convert {t t' : TypeId} {x : Operand} {u r : Value} (hop : o.op = .convert t t' x) (hx : vc1 env x = some u)
    (hr : pureRun P (convert t t' u) = some r) (hpl : plainV r = true) {d : Nat} (hdst : o.dst = some d) (hd : d < N) : Yield P N o env (.c (.d (.sc r))) := by
  refine yield_of hdst hd fun env' he base w0 ro0 ro blk a w hsim => ⟨r, w, ro, ?_, Grow.refl hsim.new, Rep.sc hpl⟩
  have h1 := hsim.getC (x := x) (by rw [he.getC (by simp [hop, Op.operands])]; exact hx)
  have h3 := pureRun_run hr w
  simp only [execOp, hop, h1, Sem.run_bind, Sem.run_pure] at h3 ⊢
  rw [h3]; rfl

/-! ### As a walk takes them -/
theorem v_y {d : Nat} {op : Op} {ty : TypeId} {pos : String} {af : Array Edge} {g : Option (Nat × Bool)} {rest : List Oper} {K : Env → Prop} {s : S} (hg : guardOk ops ⟨some d, op, ty, pos, af, g⟩ env = some true) (hy : Yield P N ⟨some d, op, ty, pos, af, g⟩ env s) (h : VL P N ops rest (upd env (some d) s) K) : VL P N ops (⟨some d, op, ty, pos, af, g⟩ :: rest) env K := vl_yield hg hy h
theorem v_n {d : Nat} {op : Op} {ty : TypeId} {pos : String} {af : Array Edge} {g : Option (Nat × Bool)} {rest : List Oper} {K : Env → Prop} (hg : guardOk ops ⟨some d, op, ty, pos, af, g⟩ env = some false) (h : VL P N ops rest (upd env (some d) (.tup [])) K) : VL P N ops (⟨some d, op, ty, pos, af, g⟩ :: rest) env K := vl_skip hg h

def envUp : Nat → List D → Env → Env
  | _, [], env => env
  | k, d :: l, env => envUp (k + 1) l (upd env (some k) (.c (.d d)))
def noEnv : Env := fun _ => .junk
theorem envUp_get : ∀ (l : List D) (k : Nat) (env : Env) (t : Nat), envUp k l env t = if t < k then env t else match l[t - k]? with | some d => .c (.d d) | none => env t
  | [], k, env, t => by simp [envUp]
  | d :: l, k, env, t => by
    rw [envUp, envUp_get l (k + 1)]
    by_cases h1 : t < k
    · simp [h1, Nat.lt_succ_of_lt h1, upd, Nat.ne_of_lt h1]
    · by_cases h2 : t = k
      · subst h2; simp [upd]
      · have h3 : ¬ t < k + 1 := by omega
        have h4 : t - k = (t - (k + 1)) + 1 := by omega
        simp only [h1, h3, if_false, h4, List.getElem?_cons_succ, upd, if_neg h2]
theorem envOf_up (l : List D) : envOf l = envUp 0 l noEnv := by
  funext t
  rw [envUp_get]
  simp only [envOf, noEnv, Nat.not_lt_zero, if_false, Nat.sub_zero]
  cases l[t]? <;> rfl
end
end Go.Vm
