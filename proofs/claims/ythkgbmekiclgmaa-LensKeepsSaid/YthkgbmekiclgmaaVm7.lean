/- The plain reading: conditions, blocks, loops, labels; functions. -/
import Derived.Test.YthkgbmekiclgmaaVm6
namespace Go.Vm
open Go.RowKit
set_option linter.unusedVariables false
set_option linter.unusedSimpArgs false

def thenQ (P : Program) (N : Nat) (y : Code) (Q : Exit → Env → Prop) : Exit → Env → Prop
  | .normal, env => VC P N y env Q
  | e, env => Q e env
def inB (id : Nat) (Q : Exit → Env → Prop) : Exit → Env → Prop
  | .exit id', env => if id' = id then Q .normal env else Q (.exit id') env
  | e, env => Q e env
def roundQ (Inv : Nat → Env → Prop) (n : Nat) (Q : Exit → Env → Prop) : Exit → Env → Prop
  | .normal, env => ∃ m, m < n ∧ Inv m env
  | e, env => Q e env
def jumpQ (J : Nat → Env → Prop) (Q : Exit → Env → Prop) : Exit → Env → Prop
  | .goto l, env => J l env
  | e, env => Q e env

section
variable {P : Program} {N base : Nat} {w0 w w' : World} {ro0 ro ro' : Roles} {blk blk' : Nat → Nat} {env env' : Env} {a : Act} {o : Oper} {ops : Array Oper} {Q : Exit → Env → Prop}

theorem vc_then {x y : Code} (h : VC P N x env (thenQ P N y Q)) : VC P N (.seq x y) env Q :=
  vc_seq (vc_mono h fun e env h => by cases e <;> exact h)
theorem vc_cond {c : Operand} {x y : Code} {b : Bool} (hc : vd env c = some (.sc (.bool b))) (h : VC P N (if b then x else y) env Q) : VC P N (.cond c x y) env Q := by
  intro base w0 ro0 a w hs
  refine wp_cond (t := b) ?_ (h base w0 ro0 a w hs)
  obtain ⟨ro, blk, hs⟩ := hs
  exact (rep_sc (hs.getD hc)).1
theorem vc_if {c : Operand} {x y : Code} {b : Bool} (hc : vd env c = some (.sc (.bool b))) (ht : b = true → VC P N x env Q) (hf : b = false → VC P N y env Q) : VC P N (.cond c x y) env Q := by
  refine vc_cond hc ?_
  cases b
  · exact hf rfl
  · exact ht rfl
theorem vc_block {id : Nat} {c : Code} (h : VC P N c env (inB id Q)) : VC P N (.block id c) env Q := by
  intro base w0 ro0 a w hs
  refine wp_block (wp_mono (h base w0 ro0 a w hs) ?_)
  rintro e a' w' ⟨env', h1, h2⟩
  cases e with
  | exit id' =>
    simp only [inB, Exit.inBlock] at h1 ⊢
    split at h1
    · rename_i e; rw [if_pos e]; exact ⟨env', h1, h2⟩
    · rename_i e; rw [if_neg e]; exact ⟨env', h1, h2⟩
  | _ => exact ⟨env', h1, h2⟩

theorem vc_loop {c : Code} (Inv : Nat → Env → Prop) {n : Nat} (h0 : Inv n env) (round : ∀ n env, Inv n env → VC P N c env (roundQ Inv n Q)) : VC P N (.loop c) env Q := by
  intro base w0 ro0 a w hs b k cs
  have key : ∀ n env a w, Inv n env → Sim P N base w0 ro0 env a w →
      ∃ e a' w', (∃ env', Q e env' ∧ Sim P N base w0 ro0 env' a' w') ∧ Arrives P (lone (b.at a (.code c :: .inLoop c :: k)) cs w) b k cs e a' w' := by
    intro n
    induction n using Nat.strongRecOn with
    | _ n ih =>
      intro env a w hI hs
      obtain ⟨e, a₁, w₁, ⟨env₁, hq, hs₁⟩, harr⟩ := round n env hI base w0 ro0 a w hs b (.inLoop c :: k) cs
      cases e with
      | normal =>
        obtain ⟨m, hlt, hI₁⟩ := hq
        obtain ⟨e₂, a₂, w₂, hq₂, harr₂⟩ := ih m hlt env₁ a₁ w₁ hI₁ hs₁
        exact ⟨e₂, a₂, w₂, hq₂, .of_steps (Steps.trans harr (.one step_inLoop)) harr₂⟩
      | exit id => exact ⟨_, a₁, w₁, ⟨env₁, hq, hs₁⟩, .pass (x := .inLoop c) rfl (fun _ _ => .inl (by simp)) harr⟩
      | goto l => exact ⟨_, a₁, w₁, ⟨env₁, hq, hs₁⟩, .pass (x := .inLoop c) rfl (fun _ _ => .inl (by simp)) harr⟩
      | ret => exact ⟨_, a₁, w₁, ⟨env₁, hq, hs₁⟩, .pass (x := .inLoop c) rfl (fun _ _ => .inl (by simp)) harr⟩
      | panic ch => exact ⟨_, a₁, w₁, ⟨env₁, hq, hs₁⟩, .pass (x := .inLoop c) rfl (fun _ _ => .inl (by simp)) harr⟩
      | outgrown => exact ⟨_, a₁, w₁, ⟨env₁, hq, hs₁⟩, .pass (x := .inLoop c) rfl (fun _ _ => .inl (by simp)) harr⟩
  obtain ⟨e, a', w', hq, harr⟩ := key n env a w h0 hs
  exact ⟨e, a', w', hq, .of_steps (.one step_loop) harr⟩

/-- A scope with labels: what holds at each (by how many jumps are left at most). -/
theorem vc_scope {c : Code} (J : Nat → Nat → Env → Prop) (R : Nat → Code) (hf : ∀ l n env, J l n env → findLabel c l = some (R l)) (first : VC P N c env (jumpQ (fun l env => ∃ n, J l n env) Q))
    (pass : ∀ l n env, J l n env → VC P N (R l) env (jumpQ (fun l' env' => ∃ m, m < n ∧ J l' m env') Q)) : VC P N (.scope c) env Q := by
  intro base w0 ro0 a w hs b k cs
  have key : ∀ n l env a w, J l n env → Sim P N base w0 ro0 env a w → ∃ e a' w', (∃ env', Q e env' ∧ Sim P N base w0 ro0 env' a' w') ∧ Arrives P (lone (b.at a (.code (R l) :: .inScope c :: k)) cs w) b k cs e a' w' := by
    intro n
    induction n using Nat.strongRecOn with
    | _ n ih =>
      intro l env a w hJ hs
      obtain ⟨e, a₁, w₁, ⟨env₁, hq, hs₁⟩, harr⟩ := pass l n env hJ base w0 ro0 a w hs b (.inScope c :: k) cs
      cases e with
      | normal => exact ⟨.normal, a₁, w₁, ⟨env₁, hq, hs₁⟩, Steps.trans harr (.one step_inScope)⟩
      | exit id => exact ⟨.exit id, a₁, w₁, ⟨env₁, hq, hs₁⟩, fun k' hk => harr k' (by simp [exitTo, hk])⟩
      | goto l' =>
        obtain ⟨m, hlt, hJ'⟩ := hq
        have hg : gotoIn l' (.inScope c :: k) = some (.code (R l') :: .inScope c :: k) := by simp [gotoIn, hf l' m env₁ hJ']
        obtain ⟨e₂, a₂, w₂, hq₂, harr₂⟩ := ih m hlt l' env₁ a₁ w₁ hJ' hs₁
        exact ⟨e₂, a₂, w₂, hq₂, .of_steps (harr _ hg) harr₂⟩
      | ret => exact ⟨_, a₁, w₁, ⟨env₁, hq, hs₁⟩, harr⟩
      | panic ch => exact ⟨_, a₁, w₁, ⟨env₁, hq, hs₁⟩, harr⟩
      | outgrown => exact ⟨_, a₁, w₁, ⟨env₁, hq, hs₁⟩, harr⟩
  obtain ⟨e, a₁, w₁, ⟨env₁, hq, hs₁⟩, harr⟩ := first base w0 ro0 a w hs b (.inScope c :: k) cs
  cases e with
  | normal => exact ⟨.normal, a₁, w₁, ⟨env₁, hq, hs₁⟩, .head step_scope (Steps.trans harr (.one step_inScope))⟩
  | exit id => exact ⟨.exit id, a₁, w₁, ⟨env₁, hq, hs₁⟩, fun k' hk => .head step_scope (harr k' (by simp [exitTo, hk]))⟩
  | goto l' =>
    obtain ⟨n, hJ'⟩ := hq
    have hg : gotoIn l' (.inScope c :: k) = some (.code (R l') :: .inScope c :: k) := by simp [gotoIn, hf l' n env₁ hJ']
    obtain ⟨e₂, a₂, w₂, hq₂, harr₂⟩ := key n l' env₁ a₁ w₁ hJ' hs₁
    exact ⟨e₂, a₂, w₂, hq₂, .of_steps (.head step_scope (harr _ hg)) harr₂⟩
  | ret => exact ⟨_, a₁, w₁, ⟨env₁, hq, hs₁⟩, .of_steps (.one step_scope) harr⟩
  | panic ch => exact ⟨_, a₁, w₁, ⟨env₁, hq, hs₁⟩, .of_steps (.one step_scope) harr⟩
  | outgrown => exact ⟨_, a₁, w₁, ⟨env₁, hq, hs₁⟩, .of_steps (.one step_scope) harr⟩

/-! ### Functions -/
def envOf (args : List D) : Env := fun t => match args[t]? with
  | some d => .c (.d d)
  | none => .junk
def vres1 (P : Program) (env : Env) : ResultVar → Option C
  | .tmp t => match env t with
    | .c c => some c
    | _ => none
  | .cell t T => match env t, tshape P T with
    | .box cs, some sh => (partD sh cs 0).map .d
    | _, _ => none
def vres (P : Program) (env : Env) : List ResultVar → Option (List C)
  | [] => some []
  | r :: l => match vres1 P env r, vres P env l with
    | some c, some cs => some (c :: cs)
    | _, _ => none
/-- What a call's answer is taken for. -/
def fits (P : Program) (c : C) : C → Prop
  | .d x => c.asD = x
  | .nil => c = .nil
  | .own _ e xs => (∃ τ, c = .own τ e xs) ∨ (c = .nil ∧ xs = [] ∧ 0 < P.cellsOf e)
def fitsL (P : Program) : List C → List C → Prop
  | [], [] => True
  | c :: cs, r :: rs => fits P c r ∧ fitsL P cs rs
  | _, _ => False

def resRun (a : Act) : ResultVar → Sem Value
  | .tmp t => pure (a.tmps.getD t undef)
  | .cell x t => do loadVar t (← asAddr (a.tmps.getD x undef))
theorem vres_run : ∀ {rs : List ResultVar} {cs : List C}, SimM P N base w0 ro0 ro blk env a w → vres P env rs = some cs →
    ∃ vs : List Value, (rs.mapM (resRun a)).run P w = .ok vs w ∧ vs.length = cs.length ∧ ∀ (i : Nat) (v : Value) (c : C), vs[i]? = some v → cs[i]? = some c → SatC P base ro w v c
  | [], cs, hs, h => by simp [vres] at h; subst h; exact ⟨[], by simp, rfl, by simp⟩
  | r :: rs, cs, hs, h => by
    unfold vres at h
    split at h
    · rename_i c cs' h1 h2
      injection h with h; subst h
      obtain ⟨vs, k1, k2, k3⟩ := vres_run hs h2
      have key : ∃ v, (resRun a r).run P w = .ok v w ∧ SatC P base ro w v c := by
        cases r with
        | tmp t =>
          simp only [vres1] at h1
          have hst := hs.sat t
          split at h1
          · rename_i c' hc'
            injection h1 with h1; subst h1
            rw [hc'] at hst
            exact ⟨_, rfl, hst⟩
          · cases h1
        | cell x T =>
          simp only [vres1] at h1
          have hst := hs.sat x
          split at h1
          · rename_i cs0 sh hb hsh
            rw [hb] at hst
            obtain ⟨d, hd, rfl⟩ := Option.map_eq_some_iff.1 h1
            obtain ⟨us, q1, q2⟩ := hst.2.cells
            obtain ⟨v, q3, q4⟩ := run_load_part (P := P) hsh q1 q2 hd
            rw [Nat.zero_add] at q3
            refine ⟨v, ?_, q4⟩
            simp only [resRun, hst.1, asAddr, Sem.run_bind, Sem.run_pure, Result.andThen_ok, q3]
          · cases h1
      obtain ⟨v, h3, h4⟩ := key
      refine ⟨v :: vs, ?_, by simp [k2], fun i u c' hu hc' => ?_⟩
      · rw [List.mapM_cons, Sem.run_bind, h3, Result.andThen_ok, Sem.run_bind, k1, Result.andThen_ok, Sem.run_pure]
      · cases i with
        | zero => simp at hu hc'; subst hu hc'; exact h4
        | succ i => exact k3 i u c' (by simpa using hu) (by simpa using hc')
    · cases h

/-- The blocks' roles behind a call: its own are nobody's any more, but rows may be handed on. -/
def hand (base τ : Nat) (ro : Roles) : Roles := fun b => if b < base then ro b else match ro b with
  | .row _ n => .row τ n
  | _ => .frozen

theorem hand_ok {τ : Nat} {b off : Nat} (h : okAt ro b off) : okAt (hand base τ ro) b off := by
  by_cases hb : b < base
  · have : hand base τ ro b = ro b := if_pos hb
    unfold okAt at *; rw [this]; exact h
  · have : hand base τ ro b = (match ro b with | .row _ n => .row τ n | _ => .frozen) := if_neg hb
    unfold okAt at *; rw [this]
    cases hr : ro b with
    | frozen => trivial
    | box t => trivial
    | row τ' n => rw [hr] at h; exact h

theorem fits_sat {τ : Nat} {v : Value} {c r : C} (h : SatC P base ro w v c) (hf : fits P c r) : SatC P base (hand base τ ro) w v (setTok τ r) := by
  have hev : ∀ b off u, okAt ro b off → w.cell? ⟨b, off, none⟩ = some u → w.cell? ⟨b, off, none⟩ = some u ∧ okAt (hand base τ ro) b off := fun b off u hok hc => ⟨hc, hand_ok hok⟩
  cases r with
  | d x =>
    obtain rfl : c.asD = x := hf
    exact Rep.evolve hev h.rep
  | nil =>
    obtain rfl : c = .nil := hf
    exact h
  | own τ0 e xs =>
    rcases hf with ⟨τ', rfl⟩ | ⟨rfl, rfl, h0⟩
    · obtain ⟨sz, us, h1, h2, h3, h4, h5, h6⟩ := h
      refine ⟨sz, us, h1, h2, h3, h4, h5.evolve hev, fun g hg => ?_⟩
      have hlt := (h3.lt g hg).1
      unfold hand
      rw [if_neg (by omega), h6 g hg]
    · rw [show v = .slice none 0 0 from h]
      exact ⟨P.cellsOf e, [], h0, rfl, World.ownsRow_nil w base e _, by simp, by simpa [flat] using Reps.nil, fun g hg => by simp [Value.ownBlock] at hg⟩

theorem fitsL_len : ∀ {cs rs : List C}, fitsL P cs rs → cs.length = rs.length
  | [], [], _ => rfl
  | _ :: cs, _ :: rs, h => by simp [fitsL_len h.2]
theorem fitsL_at : ∀ {cs rs : List C} {i : Nat} {r : C}, fitsL P cs rs → rs[i]? = some r → ∃ c, cs[i]? = some c ∧ fits P c r
  | [], [], i, r, _, h => by simp at h
  | c :: cs, r' :: rs, 0, r, h, hr => by simp at hr; subst hr; exact ⟨c, rfl, h.1⟩
  | c :: cs, r' :: rs, i + 1, r, h, hr => by
    obtain ⟨c', h1, h2⟩ := fitsL_at h.2 (by simpa using hr)
    exact ⟨c', by simpa using h1, h2⟩

/-- A function is what its body is. -/
theorem contract_of {f : FuncId} {fn : Func} {c : Code} {args : List D} {res : List C} (hf : P.funcs[f]? = some fn) (hb : fn.body = some c) (hN : fn.ntmps = N) (hargs : args.length ≤ N)
    (h : VC P N c (envOf args) (fun e env => (e = .normal ∨ e = .ret) ∧ ∃ cs, vres P env fn.results.toList = some cs ∧ fitsL P cs res)) : Contract P f args res := by
  intro ro w vs τ hnew hlen hrep
  refine calls_of_wp hf hb (wp_mono (h w.heap.size w ro { tmps := vs ++ Array.replicate (fn.ntmps - vs.size) undef, defers := [] } w ⟨ro, fun _ => 0, ?_⟩) ?_)
  · refine ⟨Below.refl _ _, Nat.le_refl _, rfl, by simp; omega, fun _ _ => rfl, hnew, fun t => ?_⟩
    unfold envOf
    cases hd : args[t]? with
    | none => trivial
    | some d =>
      have hlt := (List.getElem?_eq_some_iff.1 hd).1
      have hv : vs[t]? = some vs[t] := Array.getElem?_eq_getElem (by omega)
      have hg : (vs ++ Array.replicate (fn.ntmps - vs.size) undef).getD t undef = vs[t] := by
        rw [Array.getD_eq_getD_getElem?, Array.getElem?_append_left (by omega), hv]; rfl
      show Rep ro w ((vs ++ Array.replicate (fn.ntmps - vs.size) undef).getD t undef) d
      rw [hg]
      exact hrep t _ d (by simp [hlen, hlt]) hd
  · rintro e a' w' ⟨env', ⟨he, cs, hres, hfit⟩, ro', blk', hs⟩
    obtain ⟨vals, k1, k2, k3⟩ := vres_run hs hres
    have hl := fitsL_len hfit
    have hrun : (results fn a'.tmps).run P w' = .ok (if h : vals.toArray.size = 1 then vals.toArray[0] else .tuple vals.toArray) w' := by
      have hfun : results fn a'.tmps = (do let vs ← fn.results.mapM (resRun a'); pure (if h : vs.size = 1 then vs[0] else .tuple vs)) := by
        unfold results
        congr 1
      rw [hfun, Array.mapM_eq_mapM_toList]
      simp [k1]
    have hR : ∃ v ro'', (if h : vals.toArray.size = 1 then vals.toArray[0] else Value.tuple vals.toArray) = v ∧ Grow ro ro'' w w' ∧ SatS P w.heap.size ro'' (fun _ => 0) w' 0 v (resS (res.map (setTok τ))) := by
      refine ⟨_, hand w.heap.size τ ro', rfl, ⟨hs.below, fun b hb => ?_, fun b hb => ?_⟩, ?_⟩
      · unfold hand; rw [if_pos hb]; exact hs.old b hb
      · unfold hand
        rw [hs.new b hb]
        split <;> rfl
      · have hsat : ∀ (i : Nat) (v : Value) (r : C), vals[i]? = some v → (res.map (setTok τ))[i]? = some r → SatC P w.heap.size (hand w.heap.size τ ro') w' v r := by
          intro i v r hv hr
          rw [List.getElem?_map] at hr
          cases hri : res[i]? with
          | none => rw [hri] at hr; cases hr
          | some r' =>
            rw [hri] at hr
            simp only [Option.map_some, Option.some.injEq] at hr
            subst hr
            obtain ⟨c, hc, hfc⟩ := fitsL_at hfit hri
            exact fits_sat (k3 i v c hv hc) hfc
        have hvl : vals.length = (res.map (setTok τ)).length := by simp; omega
        match hres2 : res.map (setTok τ), vals, hvl, hsat with
        | [], [], _, hsat => exact ⟨#[], by simp, rfl, fun i v r hv hr => by simp at hv⟩
        | [r], [v], _, hsat => simpa [resS, SatS] using hsat 0 v r rfl rfl
        | r :: r' :: rs, v :: v' :: vs', hvl, hsat => exact ⟨(v :: v' :: vs').toArray, by simp, by simpa using hvl, fun i u c hu hc => hsat i u c (by simpa using hu) hc⟩
    obtain ⟨v, ro'', rfl, hg, hsat⟩ := hR
    rcases he with rfl | rfl
    · exact ⟨hs.nodef, _, hrun, _, ro'', rfl, hg, hsat⟩
    · exact ⟨hs.nodef, _, hrun, _, ro'', rfl, hg, hsat⟩
end
end Go.Vm
