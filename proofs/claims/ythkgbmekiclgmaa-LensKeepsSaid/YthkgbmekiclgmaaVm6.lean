/- The plain reading: regions (in whatever order), control, functions. -/
import Derived.Test.YthkgbmekiclgmaaVm5
import Derived.Deep.Quiet
namespace Go.Vm
open Go.RowKit
set_option linter.unusedVariables false
set_option linter.unusedSimpArgs false

section
variable {P : Program} {N base : Nat} {w0 w w' : World} {ro0 ro ro' : Roles} {blk blk' : Nat → Nat} {env env' : Env} {a : Act} {o : Oper} {ops : Array Oper}

/-- Whether an operation is carried out: the slot of the one that its guard names. -/
def guardOk (ops : Array Oper) (o : Oper) (env : Env) : Option Bool := match o.guard with
  | none => some true
  | some (j, want) => match (ops[j]?).bind (·.dst) with
    | none => none
    | some t => match env t with
      | .c (.d (.sc (.bool b))) => some (b == want)
      | .tup _ => some false
      | _ => none

theorem guard_true (h : guardOk ops o env = some true) (hs : Sim P N base w0 ro0 env a w) : Region.wanted o (yielded ops a.tmps) = true := by
  obtain ⟨ro, blk, hs⟩ := hs
  unfold guardOk at h
  unfold Region.wanted
  cases hg : o.guard with
  | none => rfl
  | some p =>
    obtain ⟨j, want⟩ := p
    simp only [hg] at h ⊢
    split at h
    · cases h
    · rename_i t ht
      split at h
      · rename_i b hb
        have := hs.sat t
        rw [hb] at this
        have hv := (rep_sc this).1
        simp only [Option.some.injEq] at h
        unfold yielded
        rw [ht]
        have hlt : t < a.tmps.size := by
          rcases Nat.lt_or_ge t a.tmps.size with h1 | h1
          · exact h1
          · rw [Array.getD_eq_getD_getElem?, Array.getElem?_eq_none h1] at hv; cases hv
        rw [Array.getD_eq_getD_getElem?, Array.getElem?_eq_getElem hlt] at hv
        simp only [Option.getD_some] at hv
        simp only [Option.bind_some, Array.getElem?_eq_getElem hlt, hv]
        simpa using h
      · cases h
      · cases h
theorem guard_false (h : guardOk ops o env = some false) (hs : Sim P N base w0 ro0 env a w) : Region.wanted o (yielded ops a.tmps) = false := by
  obtain ⟨ro, blk, hs⟩ := hs
  unfold guardOk at h
  unfold Region.wanted
  cases hg : o.guard with
  | none => simp [hg] at h
  | some p =>
    obtain ⟨j, want⟩ := p
    simp only [hg] at h ⊢
    split at h
    · cases h
    · rename_i t ht
      split at h
      · rename_i b hb
        have := hs.sat t
        rw [hb] at this
        have hv := (rep_sc this).1
        simp only [Option.some.injEq] at h
        unfold yielded
        rw [ht]
        have hlt : t < a.tmps.size := by
          rcases Nat.lt_or_ge t a.tmps.size with h1 | h1
          · exact h1
          · rw [Array.getD_eq_getD_getElem?, Array.getElem?_eq_none h1] at hv; cases hv
        rw [Array.getD_eq_getD_getElem?, Array.getElem?_eq_getElem hlt] at hv
        simp only [Option.getD_some] at hv
        simp only [Option.bind_some, Array.getElem?_eq_getElem hlt, hv]
        simpa using h
      · rename_i cs hb
        have := hs.sat t
        rw [hb] at this
        obtain ⟨arr, hv, _⟩ := this
        unfold yielded
        rw [ht]
        cases hq : a.tmps[t]? with
        | none => simp [hq]
        | some v =>
          rw [Array.getD_eq_getD_getElem?, hq] at hv
          simp only [Option.getD_some] at hv
          subst hv
          simp [hq]
      · cases h

/-- A list of operations, one behind the other. -/
def VL (P : Program) (N : Nat) (ops : Array Oper) (l : List Oper) (env : Env) (K : Env → Prop) : Prop :=
  ∀ base w0 ro0 a w, Sim P N base w0 ro0 env a w → ∀ (Q : Exit → Act → World → Prop), (∀ env' a' w', K env' → Sim P N base w0 ro0 env' a' w' → Q .normal a' w') → wpList P ops Q l a w

theorem vl_nil {K : Env → Prop} (h : K env) : VL P N ops [] env K := fun base w0 ro0 a w hs Q hQ => hQ _ _ _ h hs
theorem vl_step {rest : List Oper} {K : Env → Prop} (hg : guardOk ops o env = some true) (hst : Step P N o env env') (h : VL P N ops rest env' K) : VL P N ops (o :: rest) env K := by
  intro base w0 ro0 a w hs Q hQ
  refine wpList_step fun K' hK' => ?_
  rw [if_pos (guard_true hg hs)]
  exact hst base w0 ro0 a w hs K' Q fun a' w' hs' => hK' _ _ (h base w0 ro0 a' w' hs' Q hQ)
theorem vl_yield {rest : List Oper} {K : Env → Prop} {s : S} (hg : guardOk ops o env = some true) (hst : Yield P N o env s) (h : VL P N ops rest (upd env o.dst s) K) : VL P N ops (o :: rest) env K := vl_step hg hst.step h

theorem SimM.undef (h : SimM P N base w0 ro0 ro blk env a w) (d : Option Nat) : SimM P N base w0 ro0 ro blk (upd env d (.tup [])) (a.put d undef) w := by
  cases d with
  | none => exact h
  | some d =>
    refine ⟨h.below, h.room, by simpa [Act.put] using h.nodef, by simpa [Act.put] using h.size, h.old, h.new, fun t => ?_⟩
    by_cases e : t = d
    · subst e
      simp only [upd, if_true]
      rw [getD_put]
      refine ⟨#[], ?_, rfl, fun i u c hu _ => by simp at hu⟩
      split
      · rfl
      · rename_i hn
        have : ¬ t < a.tmps.size := fun k => hn ⟨rfl, k⟩
        rw [Array.getD_eq_getD_getElem?, Array.getElem?_eq_none (by omega)]; rfl
    · rw [getD_put, if_neg (fun k => e k.1)]
      simp only [upd, if_neg e]
      exact h.sat t
theorem vl_skip {rest : List Oper} {K : Env → Prop} (hg : guardOk ops o env = some false) (h : VL P N ops rest (upd env o.dst (.tup [])) K) : VL P N ops (o :: rest) env K := by
  intro base w0 ro0 a w hs Q hQ
  refine wpList_step fun K' hK' => ?_
  rw [if_neg (by rw [guard_false hg hs]; decide)]
  obtain ⟨ro, blk, hs⟩ := hs
  exact hK' _ _ (h base w0 ro0 _ w ⟨ro, blk, hs.undef o.dst⟩ Q hQ)

/-! ### In whatever order -/

def isFA : Op → Bool
  | .fieldAddr .. | .indexAddr .. => true
  | _ => false
/-- The slot of the variable that an address leads into. -/
def rootOf (ops : Array Oper) : Nat → Operand → Option Nat
  | n + 1, .tmp t => match ops.toList.find? (fun o => o.dst == some t && isFA o.op) with
    | some o => match o.op with
      | .fieldAddr _ x _ => rootOf ops n x
      | .indexAddr .. => none
      | _ => some t
    | none => some t
  | _, _ => none
/-- The variable that an operation reads or writes. -/
def contL (ops : Array Oper) (o : Oper) : Option Nat := match addrOf o with
  | some x => rootOf ops (ops.size + 1) x
  | none => none
def isStore : Op → Bool
  | .store .. => true
  | _ => false
def isNew : Op → Bool
  | .alloc _ | .box .. => true
  | _ => false
def contW (ops : Array Oper) (o : Oper) : Option Nat := if isStore o.op then contL ops o else none
/-- Neither of both makes a difference to the other one. -/
def awayX (ops : Array Oper) (x y : Oper) : Bool :=
  (match x.dst with
   | some d => !(y.looksAt ops).contains d && contL ops y != some d && y.dst != some d
   | none => true) &&
  (match contW ops x with
   | some t => contL ops y != some t && y.dst != some t
   | none => true)
def apartX (ops : Array Oper) (x y : Oper) : Bool := awayX ops x y && awayX ops y x

/-- What an operation does to env: a slot's value; what lies in a variable; a new variable. -/
inductive Eff where
  | slot (w : Option Nat) (s : S)
  | cont (t : Nat) (cs : List D)
  | new (d : Nat) (cs : List D)
def Eff.tgt : Eff → Option Nat
  | .slot w _ => w
  | .cont t _ => some t
  | .new d _ => some d
def Eff.app : Eff → Env → Env
  | .slot w s, env => upd env w s
  | .cont t cs, env => upd env (some t) (.box cs)
  | .new d cs, env => upd env (some d) (.box cs)
def NoRef (d : Nat) (env : Env) : Prop := ∀ t off, env t ≠ .ref d off
def nb : S → Bool
  | .box _ => false
  | _ => true

structure DG (P : Program) (N : Nat) (ops : Array Oper) (o : Oper) (env : Env) (eff : Eff) : Prop where
  kind : match eff with
    | .slot w s => w = o.dst ∧ nb s = true ∧ ∀ d off, s = .ref d off → ∃ x ∈ o.op.operands, ∃ off', vget env x = .ref d off'
    | .cont t _ => contW ops o = some t ∧ o.dst = none ∧ ∃ cs0, env t = .box cs0
    | .new d _ => o.dst = some d ∧ isNew o.op = true
  deref : ∀ x t off, addrOf o = some x → vget env x = .ref t off → contL ops o = some t
  run : (guardOk ops o env = some true ∧ ∀ env', Agree o env env' → (∀ d, isNew o.op = true → o.dst = some d → NoRef d env') → Step P N o env' (eff.app env')) ∨ (guardOk ops o env = some false ∧ eff = .slot o.dst (.tup []))

/-- Both say the same of what the operation hangs on. -/
structure Same (ops : Array Oper) (o : Oper) (env env' : Env) : Prop where
  get : ∀ x ∈ o.op.operands, vget env' x = vget env x
  guard : guardOk ops o env' = guardOk ops o env
  cont : ∀ t, contL ops o = some t → env' t = env t
theorem Same.symm (h : Same ops o env env') : Same ops o env' env := ⟨fun x hx => (h.get x hx).symm, h.guard.symm, fun t ht => (h.cont t ht).symm⟩

theorem addr_mem {x : Operand} (h : addrOf o = some x) : x ∈ o.op.operands := by
  unfold addrOf at h
  split at h
  · rename_i hop; injection h with h; subst h; simp [hop, Op.operands]
  · rename_i hop; injection h with h; subst h; simp [hop, Op.operands]
  · cases h

theorem DG.carry {eff : Eff} (h : DG P N ops o env eff) (hs : Same ops o env env') : DG P N ops o env' eff := by
  refine ⟨?_, fun x t off ha hx => h.deref x t off ha (by rw [← hs.get x (addr_mem ha)]; exact hx), ?_⟩
  · have hk := h.kind
    cases eff with
    | slot w s =>
      refine ⟨hk.1, hk.2.1, fun d off e => ?_⟩
      obtain ⟨x, hx, off', h1⟩ := hk.2.2 d off e
      exact ⟨x, hx, off', by rw [hs.get x hx]; exact h1⟩
    | cont t cs =>
      obtain ⟨h1, h2, cs0, h3⟩ := hk
      refine ⟨h1, h2, cs0, ?_⟩
      have : contL ops o = some t := by
        unfold contW at h1
        split at h1
        · exact h1
        · cases h1
      rw [hs.cont t this]; exact h3
    | new d cs => exact hk
  · rcases h.run with ⟨h1, h2⟩ | ⟨h1, h2⟩
    · refine .inl ⟨by rw [hs.guard]; exact h1, fun env'' he hn => h2 env'' ⟨fun x hx => (he.1 x hx).trans (hs.get x hx), fun x t off cs ha hx hb => ?_⟩ hn⟩
      refine he.2 x t off cs ha (by rw [hs.get x (addr_mem ha)]; exact hx) ?_
      rw [hs.cont t (h.deref x t off ha hx)]; exact hb
    · exact .inr ⟨by rw [hs.guard]; exact h1, h2⟩

theorem looks_op {t : Nat} (h : Operand.tmp t ∈ o.op.operands) : t ∈ o.looksAt ops :=
  List.mem_append_left _ (List.mem_filterMap.2 ⟨.tmp t, by simpa using h, rfl⟩)

/-- Another operation's effect makes no difference to what an operation hangs on. -/
theorem same_of_away {y : Oper} {eff : Eff} (hy : DG P N ops y env eff) (hap : awayX ops y o = true) : Same ops o env (eff.app env) := by
  simp only [awayX, Bool.and_eq_true] at hap
  obtain ⟨h1, h2⟩ := hap
  -- the slot that is written is none of those that count
  have key : ∀ t, eff.tgt = some t → (t ∉ o.looksAt ops ∨ ∃ cs0 cs, env t = .box cs0 ∧ eff.app env t = .box cs) ∧ contL ops o ≠ some t := by
    intro t ht
    have hk := hy.kind
    cases eff with
    | slot w s =>
      obtain ⟨rfl, _⟩ := hk
      have ht' : y.dst = some t := ht
      rw [ht'] at h1
      simp only [Bool.and_eq_true, Bool.not_eq_true', bne_iff_ne, ne_eq] at h1
      exact ⟨.inl (by have := h1.1.1; simpa using this), h1.1.2⟩
    | cont t' cs =>
      obtain ⟨k1, k2, cs0, k3⟩ := hk
      have ht' : t' = t := by simpa [Eff.tgt] using ht
      subst ht'
      rw [k1] at h2
      simp only [Bool.and_eq_true, bne_iff_ne, ne_eq] at h2
      exact ⟨.inr ⟨cs0, cs, k3, by simp [Eff.app, upd]⟩, h2.1⟩
    | new d cs =>
      have ht' : d = t := by simpa [Eff.tgt] using ht
      subst ht'
      rw [hk.1] at h1
      simp only [Bool.and_eq_true, Bool.not_eq_true', bne_iff_ne, ne_eq] at h1
      exact ⟨.inl (by have := h1.1.1; simpa using this), h1.1.2⟩
  have other : ∀ t, eff.tgt ≠ some t → eff.app env t = env t := by
    intro t ht
    cases eff with
    | slot w s =>
      cases w with
      | none => rfl
      | some w => have : t ≠ w := fun e => ht (by rw [e]; rfl); simp [Eff.app, upd, this]
    | cont t' cs => have : t ≠ t' := fun e => ht (by rw [e]; rfl); simp [Eff.app, upd, this]
    | new d cs => have : t ≠ d := fun e => ht (by rw [e]; rfl); simp [Eff.app, upd, this]
  refine ⟨fun x hx => ?_, ?_, fun t ht => ?_⟩
  · cases x with
    | tmp t =>
      show slotV t (eff.app env t) = slotV t (env t)
      by_cases ht : eff.tgt = some t
      · rcases (key t ht).1 with h | ⟨cs0, cs, h3, h4⟩
        · exact absurd (looks_op hx) h
        · rw [h3, h4]; rfl
      · rw [other t ht]
    | _ => rfl
  · unfold guardOk
    cases hg : o.guard with
    | none => rfl
    | some p =>
      obtain ⟨j, want⟩ := p
      simp only
      cases hd : (ops[j]?).bind (·.dst) with
      | none => rfl
      | some t =>
        simp only
        by_cases ht : eff.tgt = some t
        · rcases (key t ht).1 with h | ⟨cs0, cs, h3, h4⟩
          · exact absurd (by simp [Oper.looksAt, hg, hd]) h
          · rw [h3, h4]
        · rw [other t ht]
  · by_cases h : eff.tgt = some t
    · exact absurd ht (key t h).2
    · exact other t h

theorem upd_comm {x y : Option Nat} (env : Env) (s r : S) (h : ∀ d, x = some d → y ≠ some d) : upd (upd env x s) y r = upd (upd env y r) x s := by
  cases x with
  | none => rfl
  | some d =>
    cases y with
    | none => rfl
    | some e =>
      have hne : d ≠ e := fun he => h d rfl (he ▸ rfl)
      funext u
      by_cases e1 : u = d
      · subst e1
        simp [upd, hne]
      · simp [upd, e1]
theorem app_upd (eff : Eff) (env : Env) : ∃ s, eff.app env = upd env eff.tgt s ∧ ∀ env', eff.app env' = upd env' eff.tgt s := by
  cases eff with
  | slot w s => exact ⟨s, rfl, fun _ => rfl⟩
  | cont t cs => exact ⟨.box cs, rfl, fun _ => rfl⟩
  | new d cs => exact ⟨.box cs, rfl, fun _ => rfl⟩
theorem tgt_of {eff : Eff} {t : Nat} (h : DG P N ops o env eff) (ht : eff.tgt = some t) : o.dst = some t ∨ contW ops o = some t := by
  have hk := h.kind
  cases eff with
  | slot w s => exact .inl (hk.1 ▸ ht)
  | cont t' cs => have : t' = t := by simpa [Eff.tgt] using ht
                  subst this; exact .inr hk.1
  | new d cs => have : d = t := by simpa [Eff.tgt] using ht
                subst this; exact .inl hk.1
theorem contW_L {t : Nat} (h : contW ops o = some t) : contL ops o = some t := by
  unfold contW at h
  split at h
  · exact h
  · cases h
theorem app_comm {x y : Oper} {e f : Eff} {env1 env2 : Env} (hx : DG P N ops x env1 e) (hy : DG P N ops y env2 f) (hap : apartX ops x y = true) (env : Env) : f.app (e.app env) = e.app (f.app env) := by
  obtain ⟨s, _, h1⟩ := app_upd e env
  obtain ⟨r, _, h2⟩ := app_upd f env
  rw [h1, h2, h2, h1]
  refine upd_comm env s r fun d hd hd' => ?_
  simp only [apartX, awayX, Bool.and_eq_true] at hap
  obtain ⟨⟨a1, a2⟩, b1, b2⟩ := hap
  rcases tgt_of hx hd with hd | hd
  · rw [hd] at a1
    simp only [Bool.and_eq_true, Bool.not_eq_true', bne_iff_ne, ne_eq] at a1
    rcases tgt_of hy hd' with hd' | hd'
    · exact a1.2 hd'
    · exact a1.1.2 (contW_L hd')
  · rw [hd] at a2
    simp only [Bool.and_eq_true, bne_iff_ne, ne_eq] at a2
    rcases tgt_of hy hd' with hd' | hd'
    · exact a2.2 hd'
    · exact a2.1 (contW_L hd')

def vOp (P : Program) (N : Nat) (ops : Array Oper) (i : Nat) (K : Env → Prop) (env : Env) : Prop :=
  match ops[i]? with
  | none => K env
  | some o => ∃ eff, DG P N ops o env eff ∧ K (eff.app env)
theorem vOp_mono {i : Nat} {K K' : Env → Prop} (h : ∀ env, K env → K' env) (hh : vOp P N ops i K env) : vOp P N ops i K' env := by
  unfold vOp at *
  split
  · exact h _ (by simpa [*] using hh)
  · rename_i o ho
    simp only [ho] at hh
    obtain ⟨s, h1, h2⟩ := hh
    exact ⟨s, h1, h _ h2⟩
def wpAnyV (P : Program) (N : Nat) (md : Region.Mode) (ops : Array Oper) (K : Env → Prop) : Nat → Array Bool → Env → Prop
  | 0, listed, env => Region.ready md ops listed = [] ∧ K env
  | fuel + 1, listed, env => (Region.ready md ops listed = [] → K env) ∧ ∀ i ∈ Region.ready md ops listed, vOp P N ops i (wpAnyV P N md ops K fuel (listed.setIfInBounds i true)) env

/-- No operation but one writes a new variable's slot. -/
def uniqNew (ops : Array Oper) : Bool := ops.toList.zipIdx.all fun (o, k) => !isNew o.op || ops.toList.zipIdx.all fun (o', k') => k == k' || o'.dst != o.dst
theorem uniqNew_spec (h : uniqNew ops = true) {k k' : Nat} {o o' : Oper} (hk : ops[k]? = some o) (hk' : ops[k']? = some o') (hn : isNew o.op = true) (hne : k ≠ k') : o'.dst ≠ o.dst := by
  have m1 : (o, k) ∈ ops.toList.zipIdx := by rw [List.mem_zipIdx_iff_getElem?]; simpa using hk
  have m2 : (o', k') ∈ ops.toList.zipIdx := by rw [List.mem_zipIdx_iff_getElem?]; simpa using hk'
  have h1 := List.all_eq_true.1 h _ m1
  simp only [hn, Bool.not_true, Bool.false_or] at h1
  have h2 := List.all_eq_true.1 h1 _ m2
  simp only [Bool.or_eq_true, beq_iff_eq, bne_iff_ne, ne_eq] at h2
  exact h2.resolve_left hne
/-- New variables that are still to come: nobody holds an address in them. -/
def NR (ops : Array Oper) (listed : Array Bool) (env : Env) : Prop := ∀ k o d, ops[k]? = some o → isNew o.op = true → listed.getD k true = false → o.dst = some d → NoRef d env ∧ nb (env d) = true

theorem NR.next {listed : Array Bool} {i : Nat} {eff : Eff} (hu : uniqNew ops = true) (hi : ops[i]? = some o) (h : NR ops listed env) (hd : DG P N ops o env eff) : NR ops (listed.setIfInBounds i true) (eff.app env) := by
  intro k o' d hk hn hl hdst
  by_cases hki : k = i
  · subst hki
    rcases Nat.lt_or_ge k listed.size with h' | h'
    · simp [h'] at hl
    · simp [Array.getElem?_eq_none h', Array.getD_eq_getD_getElem?] at hl
  · have hl' : listed.getD k true = false := by rwa [getD_set_ne true (fun e => hki e.symm)] at hl
    obtain ⟨h1, h2⟩ := h k o' d hk hn hl' hdst
    have hne : o.dst ≠ some d := fun e => uniqNew_spec hu hk hi hn hki (by rw [e, hdst])
    have hkd := hd.kind
    cases eff with
    | slot w s =>
      obtain ⟨rfl, hnb, href⟩ := hkd
      have hs : ∀ off, s ≠ .ref d off := by
        intro off e
        obtain ⟨x, hx, off', hv⟩ := href d off e
        cases x with
        | tmp t =>
          have hv' : slotV t (env t) = .ref d off' := hv
          cases ht : env t with
          | box cs => rw [ht] at hv'; simp only [slotV, S.ref.injEq] at hv'; rw [hv'.1] at ht; rw [ht] at h2; simp [nb] at h2
          | ref t' off'' => rw [ht] at hv'; simp only [slotV, S.ref.injEq] at hv'; exact h1 t off'' (by rw [ht, hv'.1])
          | junk => rw [ht] at hv'; simp [slotV] at hv'
          | c x => rw [ht] at hv'; simp [slotV] at hv'
          | at_ cs off => rw [ht] at hv'; simp [slotV] at hv'
          | tup cs => rw [ht] at hv'; simp [slotV] at hv'
        | const v => simp only [vget, vconst] at hv; split at hv <;> first | (cases hv; done) | (split at hv <;> cases hv)
        | global g => simp [vget] at hv
        | func f => simp [vget] at hv
      cases hw : o.dst with
      | none => exact ⟨h1, h2⟩
      | some w =>
        have hwd : d ≠ w := fun e => hne (by rw [hw, e])
        refine ⟨fun t off => ?_, by simpa [Eff.app, upd, hwd] using h2⟩
        simp only [Eff.app, upd]
        split
        · exact hs off
        · exact h1 t off
    | cont t cs =>
      obtain ⟨_, _, cs0, hb⟩ := hkd
      have htd : d ≠ t := fun e => by rw [← e] at hb; rw [hb] at h2; simp [nb] at h2
      refine ⟨fun u off => ?_, by simpa [Eff.app, upd, htd] using h2⟩
      simp only [Eff.app, upd]
      split
      · simp
      · exact h1 u off
    | new d' cs =>
      have hdd : d ≠ d' := fun e => hne (by rw [hkd.1, e])
      refine ⟨fun u off => ?_, by simpa [Eff.app, upd, hdd] using h2⟩
      simp only [Eff.app, upd]
      split
      · simp
      · exact h1 u off

theorem wpAny_of_V {md : Region.Mode} {K : Env → Prop} {Q : Exit → Act → World → Prop} (hu : uniqNew ops = true) (hQ : ∀ env a w, K env → Sim P N base w0 ro0 env a w → Q .normal a w) : ∀ (fuel : Nat) (listed : Array Bool) (env : Env) (a : Act) (w : World), NR ops listed env → Sim P N base w0 ro0 env a w → wpAnyV P N md ops K fuel listed env → wpAny P md ops Q fuel listed a w
  | 0, _, _, _, _, _, hs, h => ⟨h.1, hQ _ _ _ h.2 hs⟩
  | fuel + 1, listed, env, a, w, hnr, hs, h => by
    refine ⟨fun h0 => hQ _ _ _ (h.1 h0) hs, fun i hi => ?_⟩
    have hv := h.2 i hi
    unfold vOp at hv
    unfold wpOp
    have hun := (mem_ready.1 hi).1
    cases ho : ops[i]? with
    | none =>
      obtain ⟨_, o, ho', _⟩ := mem_ready.1 hi
      rw [ho] at ho'; cases ho'
    | some o =>
      rw [ho] at hv
      obtain ⟨eff, hd, hk⟩ := hv
      simp only
      have hnx := hnr.next hu ho hd
      rcases hd.run with ⟨g, y⟩ | ⟨g, rfl⟩
      · rw [if_pos (guard_true g hs)]
        refine .inl (y env (Agree.refl _ _) (fun d hn hdst => (hnr i o d ho hn (by simpa using hun) hdst).1) base w0 ro0 a w hs _ Q fun a' w' hs' => wpAny_of_V hu hQ fuel _ _ _ _ hnx hs' hk)
      · rw [if_neg (by rw [guard_false g hs]; decide)]
        obtain ⟨ro, blk, hs⟩ := hs
        exact wpAny_of_V hu hQ fuel _ _ _ _ hnx ⟨ro, blk, hs.undef o.dst⟩ hk

theorem vOp_put {j : Nat} {oi oj : Oper} {eff : Eff} (hj : ops[j]? = some oj) (hap : apartX ops oi oj = true) {K : Env → Prop} (hy : DG P N ops oi env eff) (h : vOp P N ops j K (eff.app env)) :
    vOp P N ops j (fun env' => DG P N ops oi env' eff ∧ K (eff.app env')) env := by
  have h12 := hap
  simp only [apartX, Bool.and_eq_true] at h12
  unfold vOp at *
  simp only [hj] at *
  obtain ⟨f, hf, hk⟩ := h
  have hf' : DG P N ops oj env f := hf.carry (same_of_away hy h12.1).symm
  exact ⟨f, hf', hy.carry (same_of_away hf' h12.2), by rw [← app_comm hy hf' hap]; exact hk⟩

theorem wpAnyV_first {md : Region.Mode} {K : Env → Prop} {i : Nat} {oi : Oper} {eff : Eff} (hi : ops[i]? = some oi) :
    ∀ (fuel : Nat) (listed : Array Bool) (env : Env),
      (∀ j oj, ops[j]? = some oj → j ≠ i → listed.getD j true = false → (∀ e ∈ oj.after, Region.binds md e = true → e.on ≠ i) → apartX ops oi oj = true) →
      i ∈ Region.ready md ops listed → DG P N ops oi env eff →
      wpAnyV P N md ops K fuel (listed.setIfInBounds i true) (eff.app env) → wpAnyV P N md ops K (fuel + 1) listed env := by
  intro fuel
  induction fuel with
  | zero =>
    intro listed env _ hr hy H
    refine ⟨fun h => (by rw [h] at hr; cases hr), fun j hj => ?_⟩
    by_cases hji : j = i
    · subst hji; unfold vOp; rw [hi]; exact ⟨eff, hy, H⟩
    · have := ready_mono hj hji
      rw [H.1] at this
      cases this
  | succ fuel ih =>
    intro listed env hfree hr hy H
    refine ⟨fun h => (by rw [h] at hr; cases hr), fun j hj => ?_⟩
    by_cases hji : j = i
    · subst hji; unfold vOp; rw [hi]; exact ⟨eff, hy, H⟩
    · have h1 := H.2 j (ready_mono hj hji)
      obtain ⟨hjun, oj, hoj, hall⟩ := mem_ready.1 hj
      have hnot : ∀ e ∈ oj.after, Region.binds md e = true → e.on ≠ i := fun e he hb heq => by
        have h1 := hall e he hb
        have h0 := (mem_ready.1 hr).1
        rw [heq] at h1
        rcases Nat.lt_or_ge i listed.size with h' | h'
        · simp [h'] at h0 h1; rw [h0] at h1; cases h1
        · simp [Array.getElem?_eq_none h'] at h1
      have h2 := vOp_put hoj (hfree j oj hoj hji hjun hnot) hy h1
      have hfree' : ∀ k ok, ops[k]? = some ok → k ≠ i → (listed.setIfInBounds j true).getD k true = false →
          (∀ e ∈ ok.after, Region.binds md e = true → e.on ≠ i) → apartX ops oi ok = true := fun k ok hk hki hun hno => by
        refine hfree k ok hk hki ?_ hno
        by_cases hjk : j = k
        · subst hjk; exact hjun
        · rw [getD_set_ne true hjk] at hun; exact hun
      refine vOp_mono (fun env' h3 => ih (listed.setIfInBounds j true) env' hfree' (ready_mono hr (Ne.symm hji)) h3.1 ?_) h2
      rw [Array.setIfInBounds_comm _ _ hji]
      exact h3.2

/-- One walk of the written order. -/
def VQ (P : Program) (N : Nat) (ops : Array Oper) (K : Env → Prop) : List Oper → Env → Prop
  | [], env => K env
  | o :: rest, env => ∃ eff, DG P N ops o env eff ∧ VQ P N ops K rest (eff.app env)

/-- Nobody who could come before number i makes a difference to it. -/
def freeX (md : Region.Mode) (ops : Array Oper) (listed : Array Bool) (i : Nat) : Bool := match ops[i]? with
  | none => false
  | some oi => (List.range ops.size).all fun j => j == i || listed.getD j true || (match ops[j]? with
    | none => true
    | some oj => oj.after.any (fun e => Region.binds md e && e.on == i) || apartX ops oi oj)
def lexX (md : Region.Mode) (ops : Array Oper) : Nat → Nat → Array Bool → Bool
  | 0, _, listed => (Region.ready md ops listed).isEmpty
  | fuel + 1, k, listed => (Region.ready md ops listed).contains k && freeX md ops listed k && lexX md ops fuel (k + 1) (listed.setIfInBounds k true)
def drawnOk (ops : Array Oper) : Bool := uniqNew ops && lexX .any ops ops.size 0 (Array.replicate ops.size false)

theorem freeX_spec {md : Region.Mode} {listed : Array Bool} {i : Nat} {oi : Oper} (hi : ops[i]? = some oi) (h : freeX md ops listed i = true) : ∀ j oj, ops[j]? = some oj → j ≠ i → listed.getD j true = false → (∀ e ∈ oj.after, Region.binds md e = true → e.on ≠ i) → apartX ops oi oj = true := by
  intro j oj hj hji hl hno
  unfold freeX at h
  rw [hi] at h
  have hlt : j < ops.size := (Array.getElem?_eq_some_iff.1 hj).1
  have := List.all_eq_true.1 h j (List.mem_range.2 hlt)
  simp only [hj, hl, Bool.or_false, Bool.or_eq_true, beq_iff_eq] at this
  rcases this with h1 | h1 | h1
  · exact absurd h1 hji
  · rw [Array.any_eq_true] at h1
    obtain ⟨k, hk, h2⟩ := h1
    simp only [Bool.and_eq_true, beq_iff_eq] at h2
    exact absurd h2.2 (hno _ (Array.getElem_mem hk) h2.1)
  · exact h1

theorem wpAnyV_lex {md : Region.Mode} {K : Env → Prop} : ∀ (l : List Oper) (k : Nat) (listed : Array Bool) (env : Env), (∀ j, l[j]? = ops[k + j]?) → lexX md ops l.length k listed = true → VQ P N ops K l env → wpAnyV P N md ops K l.length listed env
  | [], _, _, _, _, hB, h => ⟨by simpa [lexX] using hB, h⟩
  | o :: l, k, listed, env, hl, hB, h => by
    have h0 : ops[k]? = some o := by simpa using (hl 0).symm
    simp only [List.length_cons, lexX, Bool.and_eq_true] at hB
    obtain ⟨⟨hr, hf⟩, hB'⟩ := hB
    obtain ⟨eff, hy, hK⟩ := h
    exact wpAnyV_first h0 l.length listed env (freeX_spec h0 hf) (by simpa using hr) hy
      (wpAnyV_lex l (k + 1) _ _ (fun j => by have := hl (j + 1); simpa [Nat.add_assoc, Nat.add_comm 1 j] using this) hB' hK)

/-- What is known of new variables ahead of a region is forgotten. -/
def fresh1 (ds : List Nat) (t : Nat) : S → S
  | .ref d off => if ds.contains d then .junk else .ref d off
  | .box cs => if ds.contains t then .junk else .box cs
  | s => s
def news (ops : List Oper) : List Nat := ops.filterMap fun o => if isNew o.op then o.dst else none
def freshen (ops : List Oper) (env : Env) : Env := fun t => fresh1 (news ops) t (env t)

/-! ### Code -/
/-- A piece of code, from whatever frame and world are as env says. -/
def VC (P : Program) (N : Nat) (c : Code) (env : Env) (Q : Exit → Env → Prop) : Prop :=
  ∀ base w0 ro0 a w, Sim P N base w0 ro0 env a w → c.wp P (fun e a' w' => ∃ env', Q e env' ∧ Sim P N base w0 ro0 env' a' w') a w

theorem vc_weaken {c : Code} {Q : Exit → Env → Prop} (he : ∀ t, env' t = env t ∨ env' t = .junk) (h : VC P N c env' Q) : VC P N c env Q := fun base w0 ro0 a w hs => h base w0 ro0 a w (hs.weaken he)
theorem vc_mono {c : Code} {Q Q' : Exit → Env → Prop} (h : VC P N c env Q) (hq : ∀ e env, Q e env → Q' e env) : VC P N c env Q' :=
  fun base w0 ro0 a w hs => wp_mono (h base w0 ro0 a w hs) fun e a' w' ⟨env', h1, h2⟩ => ⟨env', hq _ _ h1, h2⟩
theorem vc_region {id : Nat} {l : List Oper} {Q : Exit → Env → Prop} (h : VL P N l.toArray l env (Q .normal)) : VC P N (.region id l.toArray false) env Q :=
  fun base w0 ro0 a w hs => wp_region_lit (h base w0 ro0 a w hs _ fun env' a' w' hk hs' => ⟨env', hk, hs'⟩)
theorem vc_drawn {id : Nat} {l : List Oper} {Q : Exit → Env → Prop} (hm : P.follows .mixedOrders = true) (hB : drawnOk l.toArray = true) (h : VQ P N l.toArray (Q .normal) l (freshen l env)) : VC P N (.region id l.toArray true) env Q := by
  intro base w0 ro0 a w hs
  simp only [drawnOk, Bool.and_eq_true] at hB
  have hs' : Sim P N base w0 ro0 (freshen l env) a w := hs.weaken fun t => by
    unfold freshen fresh1
    split
    · split
      · exact .inr rfl
      · left; symm; assumption
    · split
      · exact .inr rfl
      · left; symm; assumption
    · exact .inl rfl
  have hnr : NR l.toArray (Array.replicate l.toArray.size false) (freshen l env) := by
    intro k o d hk hn _ hdst
    have hmem : d ∈ news l := by
      unfold news
      refine List.mem_filterMap.2 ⟨o, ?_, by rw [if_pos hn]; exact hdst⟩
      have : l[k]? = some o := by simpa using hk
      exact List.mem_of_getElem? this
    have hc : (news l).contains d = true := by simpa using hmem
    refine ⟨fun t off e => ?_, ?_⟩
    · unfold freshen fresh1 at e
      split at e
      · split at e
        · cases e
        · rename_i hne
          injection e with e1 e2
          subst e1
          exact hne hc
      · split at e <;> cases e
      · rename_i h1 h2
        exact h1 d off e
    · unfold freshen fresh1
      split
      · split <;> rfl
      · rw [if_pos hc]; rfl
      · rename_i h1 h2
        cases hd : env d with
        | box cs => exact absurd hd (h2 cs)
        | _ => rfl
  refine wp_region_any hm (wpAny_of_V (K := Q .normal) hB.1 (fun env' a' w' hk hs' => ⟨env', hk, hs'⟩) _ _ _ _ _ hnr (?_ : Sim P N base w0 ro0 (freshen l env) a _) ?_)
  · obtain ⟨ro, blk, hs⟩ := hs'
    exact ⟨ro, blk, hs.rest ⟨(Below.refl _ _).drew, fun _ _ => rfl, hs.new⟩⟩
  · have := wpAnyV_lex (P := P) (N := N) (md := .any) (ops := l.toArray) l 0 (Array.replicate l.toArray.size false) (freshen l env) (by simp) (by simpa using hB.2) h
    simpa using this
theorem vc_seq {x y : Code} {Q : Exit → Env → Prop} (h : VC P N x env (fun e env' => match e with | .normal => VC P N y env' Q | e => Q e env')) : VC P N (.seq x y) env Q := by
  intro base w0 ro0 a w hs
  refine wp_seq (wp_mono (h base w0 ro0 a w hs) ?_)
  rintro e a' w' ⟨env', h1, h2⟩
  cases e <;> first | exact ⟨env', h1, h2⟩ | exact h1 base w0 ro0 a' w' h2
theorem vc_skip {Q : Exit → Env → Prop} (h : Q .normal env) : VC P N .skip env Q := fun base w0 ro0 a w hs => wp_skip ⟨env, h, hs⟩
theorem vc_ret {Q : Exit → Env → Prop} (h : Q .ret env) : VC P N .ret env Q := fun base w0 ro0 a w hs => wp_ret ⟨env, h, hs⟩
theorem vc_exit {id : Nat} {Q : Exit → Env → Prop} (h : Q (.exit id) env) : VC P N (.exit id) env Q := fun base w0 ro0 a w hs => wp_exit ⟨env, h, hs⟩
theorem vc_goto {l : Nat} {Q : Exit → Env → Prop} (h : Q (.goto l) env) : VC P N (.goto l) env Q := fun base w0 ro0 a w hs => wp_goto ⟨env, h, hs⟩
theorem vc_label {l : Nat} {Q : Exit → Env → Prop} (h : Q .normal env) : VC P N (.label l) env Q := fun base w0 ro0 a w hs => wp_label ⟨env, h, hs⟩
end
end Go.Vm
