/- The plain reading: slicing, literals, new variables. -/
import Derived.Test.YthkgbmekiclgmaaVm3
import Derived.Laws.Tables
import Derived.Laws.MakeOwn
import Derived.Great.BuildSlice
namespace Go.Vm
open Go.RowKit
set_option linter.unusedVariables false
set_option linter.unusedSimpArgs false

def bnd (env : Env) (x : Option Operand) (dflt : Nat) : Option Nat := match x with
  | none => some dflt
  | some x => match vd env x with
    | some (.sc (.int _ i)) => if 0 ≤ i then some i.toNat else none
    | _ => none
/-- A zero value's cells. -/
def zc : Value → Option D
  | .slice none 0 0 => some (.row [])
  | v => if plainV v then some (.sc v) else none
def zeroDs : List Value → Option (List D)
  | [] => some []
  | v :: l => match zc v, zeroDs l with
    | some d, some ds => some (d :: ds)
    | _, _ => none
def zeroOf (P : Program) (t : TypeId) : Option (List D) := match P.info? t with
  | some i => match i.zero with
    | some z => zeroDs z.cells.toList
    | none => none
  | none => none
def fillD (place : Nat → Option (Nat × Nat)) (cells : List D) : List (Nat × D) → Option (List D)
  | [] => some cells
  | (i, d) :: rest => match place i with
    | none => none
    | some (off, size) => if d.cells.length = size ∧ off + d.cells.length ≤ cells.length then fillD place (patch cells off d.cells) rest else none
def builtD (P : Program) (t : TypeId) (parts : List (Nat × D)) : Option (List D) :=
  match P.info? t, P.underlying t with
  | some it, some (.array _ e) =>
    match it.zero, P.info? e with
    | some z, some ie => match zeroDs z.cells.toList with
      | some zs => fillD (fun i => some (i * ie.size, ie.size)) zs parts
      | none => none
    | _, _ => none
  | some it, some (.struct fields) =>
    match it.zero, fields.toList.mapM (fun f => (P.info? f.type).map fun i => (f.offset, i.size)) with
    | some z, some places => match zeroDs z.cells.toList with
      | some zs => fillD (places.toArray[·]?) zs parts
      | none => none
    | _, _ => none
  | _, _ => none
def vparts (env : Env) : List (Nat × Operand) → Option (List (Nat × D))
  | [] => some []
  | (i, x) :: l => match vd env x, vparts env l with
    | some d, some ds => some ((i, d) :: ds)
    | _, _ => none

section
variable {P : Program} {N base : Nat} {w0 w w' : World} {ro0 ro ro' : Roles} {blk blk' : Nat → Nat} {env env' : Env} {a : Act} {o : Oper}

theorem zc_rep {v : Value} {d : D} (h : zc v = some d) : Rep ro w v d ∧ v.oneCell' = true := by
  unfold zc at h
  split at h
  · injection h with h; subst h; exact ⟨.nil (by simp [maxLen]), rfl⟩
  · split at h
    · rename_i hp; injection h with h; subst h; exact ⟨.sc hp, plainV_one hp⟩
    · cases h
theorem zeroDs_reps : ∀ {vs : List Value} {ds : List D}, zeroDs vs = some ds → Reps ro w vs ds
  | [], ds, h => by simp [zeroDs] at h; subst h; exact Reps.nil
  | v :: vs, ds, h => by
    unfold zeroDs at h
    split at h
    · rename_i d es h1 h2
      injection h with h; subst h
      have ih := zeroDs_reps h2
      obtain ⟨k1, k2⟩ := zc_rep (ro := ro) (w := w) h1
      refine ⟨by simp [ih.1], ?_, ?_⟩
      · intro u hu
        rcases List.mem_cons.1 hu with rfl | hu
        · exact k2
        · exact ih.2.1 u hu
      · intro j u c hu hc
        cases j with
        | zero => simp at hu hc; subst hu hc; exact k1
        | succ j => exact ih.2.2 j u c (by simpa using hu) (by simpa using hc)
    · cases h

theorem fold_patch : ∀ (l : List Value) (off k : Nat) (cells : Array Value), off + k + l.length ≤ cells.size →
    ((l.zipIdx k).foldl (fun cs (x : Value × Nat) => cs.setIfInBounds (off + x.2) x.1) cells).toList = cells.toList.take (off + k) ++ l ++ cells.toList.drop (off + k + l.length)
  | [], off, k, cells, h => by simp
  | v :: l, off, k, cells, h => by
    rw [List.zipIdx_cons, List.foldl_cons, fold_patch l off (k + 1) _ (by simp at h ⊢; omega)]
    have e := list_seg_step cells.toList (off + k) v l (by simp at h ⊢; omega)
    simpa [Array.toList_setIfInBounds, Nat.add_assoc] using e

theorem fill_one (off : Nat) (vs cells : Array Value) (h : off + vs.size ≤ cells.size) :
    (vs.zipIdx.foldl (fun cs (x : Value × Nat) => cs.setIfInBounds (off + x.2) x.1) cells).toList = cells.toList.take off ++ vs.toList ++ cells.toList.drop (off + vs.size) := by
  have := fold_patch vs.toList off 0 cells (by simpa using h)
  rw [← Array.foldl_toList, Array.toList_zipIdx]
  simpa using this

theorem Reps.patch {us vs : List Value} {cs ds : List D} (h : Reps ro w us cs) (k : Reps ro w vs ds) (off : Nat) : Reps ro w (us.take off ++ vs ++ us.drop (off + vs.length)) (patch cs off ds) := by
  unfold Vm.patch
  rw [k.1]
  exact ((h.take off).append k).append (h.drop _)

theorem fill_rep {place : Nat → Option (Nat × Nat)} : ∀ {parts : List (Nat × Value)} {ds : List (Nat × D)} {cells : Array Value} {cs cs' : List D}, Reps ro w cells.toList cs → parts.length = ds.length →
    (∀ (j : Nat) (p : Nat × Value) (q : Nat × D), parts[j]? = some p → ds[j]? = some q → p.1 = q.1 ∧ Rep ro w p.2 q.2) → fillD place cs ds = some cs' → ∃ cells', Instr.fill place cells parts = some cells' ∧ Reps ro w cells'.toList cs'
  | [], [], cells, cs, cs', h, _, _, hf => by
    simp [fillD] at hf; subst hf; exact ⟨cells, by simp [Instr.fill], h⟩
  | [], _ :: _, _, _, _, _, hl, _, _ => by simp at hl
  | _ :: _, [], _, _, _, _, hl, _, _ => by simp at hl
  | (i, v) :: parts, (i', d) :: ds, cells, cs, cs', h, hl, hp, hf => by
    obtain ⟨e1, hv⟩ := hp 0 (i, v) (i', d) rfl rfl
    simp only at e1 hv; subst e1
    unfold fillD at hf
    split at hf
    · cases hf
    · rename_i off size hpl
      split at hf
      · rename_i hc
        have hcl := hv.cells
        have e2 : v.cells.size = d.cells.length := by simpa using hcl.1
        have e3 : cells.size = cs.length := by simpa using h.1
        have hle : off + v.cells.size ≤ cells.size := by omega
        have hone := fill_one off v.cells cells hle
        have hk := h.patch hcl off
        simp only [Array.length_toList] at hk
        rw [← hone] at hk
        obtain ⟨cells', h1, h2⟩ := fill_rep (parts := parts) (ds := ds) hk (by simpa using hl) (fun j p q hj hq => hp (j + 1) p q (by simpa using hj) (by simpa using hq)) hf
        refine ⟨cells', ?_, h2⟩
        unfold Instr.fill
        rw [hpl]
        simp only
        rw [if_neg (by simp only [ne_eq, Bool.or_eq_true, decide_eq_true_eq]; omega)]
        exact h1
      · cases hf

theorem vparts_rep : ∀ {parts : List (Nat × Operand)} {ds : List (Nat × D)}, SimM P N base w0 ro0 ro blk env a w → vparts env parts = some ds →
    (parts.map fun (i, x) => (i, a.eval x)).length = ds.length ∧ ∀ (j : Nat) (p : Nat × Value) (q : Nat × D), (parts.map fun (i, x) => (i, a.eval x))[j]? = some p → ds[j]? = some q → p.1 = q.1 ∧ Rep ro w p.2 q.2
  | [], ds, hs, h => by simp [vparts] at h; subst h; exact ⟨rfl, by simp⟩
  | (i, x) :: l, ds, hs, h => by
    unfold vparts at h
    split at h
    · rename_i d es h1 h2
      injection h with h; subst h
      obtain ⟨k1, k2⟩ := vparts_rep hs h2
      refine ⟨by simpa using k1, fun j p q hp hq => ?_⟩
      cases j with
      | zero => simp at hp hq; subst hp hq; exact ⟨rfl, hs.getD h1⟩
      | succ j => exact k2 j p q (by simpa using hp) (by simpa using hq)
    · cases h

theorem vparts_agree : ∀ {parts : List (Nat × Operand)}, (∀ x ∈ parts, vd env' x.2 = vd env x.2) → vparts env' parts = vparts env parts
  | [], _ => rfl
  | (i, x) :: l, h => by
    unfold vparts
    rw [h (i, x) (List.mem_cons_self ..), vparts_agree fun y hy => h y (List.mem_cons_of_mem _ hy)]

theorem built_rep {t : TypeId} {parts : List (Nat × Value)} {ds : List (Nat × D)} {cs : List D} (hl : parts.length = ds.length)
    (hp : ∀ (j : Nat) (p : Nat × Value) (q : Nat × D), parts[j]? = some p → ds[j]? = some q → p.1 = q.1 ∧ Rep ro w p.2 q.2) (h : builtD P t ds = some cs) : ∃ cells, P.built t parts = some cells ∧ Reps ro w cells.toList cs := by
  unfold builtD at h
  unfold Program.built
  cases hit : P.info? t with
  | none => simp [hit] at h
  | some it =>
    cases hu : P.underlying t with
    | none => simp [hit, hu] at h
    | some d =>
      cases hz : it.zero with
      | none => cases d <;> simp [hit, hu, hz] at h
      | some z =>
        cases hzd : zeroDs z.cells.toList with
        | none =>
          cases d <;> try (simp [hit, hu] at h; done)
          case array n e => cases hie : P.info? e <;> simp [hit, hu, hz, hie, hzd] at h
          case struct fields => cases hpl : fields.toList.mapM (fun f => (P.info? f.type).map fun i => (f.offset, i.size)) <;> simp [hit, hu, hz, hpl, hzd] at h
        | some zs =>
          have hzr := zeroDs_reps (ro := ro) (w := w) hzd
          cases d <;> try (simp [hit, hu] at h; done)
          case array n e =>
            cases hie : P.info? e with
            | none => simp [hit, hu, hz, hie] at h
            | some ie =>
              simp only [hit, hu, hz, hie, hzd] at h ⊢
              exact fill_rep hzr hl hp h
          case struct fields =>
            cases hpl : fields.toList.mapM (fun f => (P.info? f.type).map fun i => (f.offset, i.size)) with
            | none => simp [hit, hu, hz, hpl] at h
            | some places =>
              simp only [hit, hu, hz, hpl, hzd] at h ⊢
              exact fill_rep hzr hl hp h

theorem y_build {T : TypeId} {parts : Array (Nat × Operand)} {ds : List (Nat × D)} {cs : List D} (hop : o.op = .build T parts) (hx : vparts env parts.toList = some ds) (hb : builtD P T ds = some cs) {d : Nat} (hdst : o.dst = some d) (hd : d < N) : Yield P N o env (.c (.d (.agg cs))) := by
  refine yield_of hdst hd fun env' he base w0 ro0 ro blk a w hsim => ?_
  have hx' : vparts env' parts.toList = some ds := by
    rw [← hx]
    refine vparts_agree fun x hm => he.getD ?_
    simp only [hop, Op.operands]
    exact List.mem_toArray.2 (List.mem_map.2 ⟨x, hm, rfl⟩)
  obtain ⟨h1, h2⟩ := vparts_rep hsim hx'
  obtain ⟨cells, h3, h4⟩ := built_rep (P := P) h1 h2 hb
  refine ⟨.agg cells, w, ro, ?_, Grow.refl hsim.new, .agg (by simpa using h4.1) h4.2.1 h4.2.2⟩
  have hr := run_build (P := P) w T (parts.map fun (i, x) => (i, a.eval x)) cells (by rw [Array.toList_map]; exact h3)
  simp only [execOp, hop, Sem.run_bind, hr, Result.andThen_ok]
  rfl

/-! ### Slicing -/
theorem flat_take {sz n : Nat} {xs : List D} (h : ∀ x ∈ xs, x.cells.length = sz) (hn : n ≤ xs.length) : flat (xs.take n) = (flat xs).take (n * sz) := by
  have e : flat xs = flat (xs.take n) ++ flat (xs.drop n) := by rw [← flat_append, List.take_append_drop]
  have hl : (flat (xs.take n)).length = n * sz := by rw [flat_length (sz := sz) (fun x hx => h x (List.mem_of_mem_take hx)), List.length_take, Nat.min_eq_left hn]
  rw [e, ← hl, List.take_left]
theorem flat_drop {sz n : Nat} {xs : List D} (h : ∀ x ∈ xs, x.cells.length = sz) (hn : n ≤ xs.length) : flat (xs.drop n) = (flat xs).drop (n * sz) := by
  have e : flat xs = flat (xs.take n) ++ flat (xs.drop n) := by rw [← flat_append, List.take_append_drop]
  have hl : (flat (xs.take n)).length = n * sz := by rw [flat_length (sz := sz) (fun x hx => h x (List.mem_of_mem_take hx)), List.length_take, Nat.min_eq_left hn]
  rw [e, ← hl, List.drop_left]
theorem run_bound {x : Value} {k : IntKind} {i : Int} {y : Nat} {code : BoundsCode} (hx : x = .int k i) (h0 : 0 ≤ i) (hy : i.toNat ≤ y) : (Instr.sliceBound x y code).run P w = .ok i.toNat w := by
  subst hx
  have : i ≤ (y : Int) := by omega
  simp [Instr.sliceBound, asIntOf, h0, this]

theorem bnd_agree (he : Agree o env env') {x : Option Operand} {n : Nat} (hx : ∀ y, x = some y → y ∈ o.op.operands) : bnd env' x n = bnd env x n := by
  cases x with
  | none => rfl
  | some y => unfold bnd; simp only; rw [he.getD (hx y rfl)]

theorem SimM.bound (h : SimM P N base w0 ro0 ro blk env a w) {x : Operand} {n l : Nat} (hb : bnd env (some x) n = some l) : ∃ k i, a.eval x = .int k i ∧ 0 ≤ i ∧ i.toNat = l := by
  unfold bnd at hb
  simp only at hb
  split at hb
  · rename_i k i hv
    split at hb
    · rename_i h0
      injection hb with hb
      exact ⟨k, i, (rep_sc (h.getD hv)).1, h0, hb⟩
    · cases hb
  · cases hb

theorem run_bounds (hs : SimM P N base w0 ro0 ro blk env a w) {isS : Bool} {len cap : Nat} {lo hi : Option Operand} {l h : Nat} (hlc : len ≤ cap) (hl : bnd env lo 0 = some l) (hh : bnd env hi len = some h) (h1 : l ≤ h) (h2 : h ≤ len) :
    (Instr.sliceBounds isS len cap (lo.map a.eval) (hi.map a.eval) none).run P w = .ok (l, h, cap) w := by
  have hc : h ≤ cap := by omega
  cases hi with
  | none =>
    simp only [bnd, Option.some.injEq] at hh; subst hh
    cases lo with
    | none => simp only [bnd, Option.some.injEq] at hl; subst hl; simp [Instr.sliceBounds]
    | some x =>
      obtain ⟨k, i, e1, e2, e3⟩ := hs.bound hl
      have hr := run_bound (P := P) (w := w) (code := .sliceB) e1 e2 (y := len) (by omega)
      simp [Instr.sliceBounds, hr, e3]
  | some y =>
    obtain ⟨k', i', f1, f2, f3⟩ := hs.bound hh
    have hr' := run_bound (P := P) (w := w) (code := if isS then .sliceAcap else .sliceAlen) f1 f2 (y := cap) (by omega)
    cases lo with
    | none => simp only [bnd, Option.some.injEq] at hl; subst hl; simp [Instr.sliceBounds, hr', f3]
    | some x =>
      obtain ⟨k, i, e1, e2, e3⟩ := hs.bound hl
      have hr := run_bound (P := P) (w := w) (code := .sliceB) e1 e2 (y := h) (by omega)
      simp [Instr.sliceBounds, hr', f3, hr, e3]

theorem y_substr {T : TypeId} {x : Operand} {lo hi : Option Operand} {s : ByteArray} {l h : Nat} (hop : o.op = .slice T x lo hi none) (hx : vd env x = some (.sc (.string s))) (hT : P.underlying T = some .string) (hl : bnd env lo 0 = some l) (hh : bnd env hi s.size = some h) (h1 : l ≤ h) (h2 : h ≤ s.size) {d : Nat} (hdst : o.dst = some d) (hd : d < N) : Yield P N o env (.c (.d (.sc (.string (s.extract l h))))) := by
  refine yield_of hdst hd fun env' he base w0 ro0 ro blk a w hsim => ?_
  have hv := (rep_sc (hsim.getD (x := x) (by rw [he.getD (by simp [hop, Op.operands])]; exact hx))).1
  have m1 : ∀ y, lo = some y → y ∈ o.op.operands := fun y hy => by simp [hop, Op.operands, hy]
  have m2 : ∀ y, hi = some y → y ∈ o.op.operands := fun y hy => by simp [hop, Op.operands, hy]
  have hr := run_bounds hsim (isS := false) (len := s.size) (cap := s.size) (Nat.le_refl _) (by rw [bnd_agree he m1]; exact hl) (by rw [bnd_agree he m2]; exact hh) h1 h2
  refine ⟨_, w, ro, ?_, Grow.refl hsim.new, Rep.sc rfl⟩
  simp [execOp, hop, Instr.sliceAt, run_underlying hT, Instr.slice, hv, hr]

theorem y_subrow {T : TypeId} {x : Operand} {lo hi : Option Operand} {xs : List D} {l h sz : Nat} (hop : o.op = .slice T x lo hi none) (hx : vd env x = some (.row xs)) (hT : elemSize P T = some sz) (hsz : ∀ x ∈ xs, x.cells.length = sz) (hl : bnd env lo 0 = some l) (hh : bnd env hi xs.length = some h) (h1 : l ≤ h) (h2 : h ≤ xs.length) {d : Nat} (hdst : o.dst = some d) (hd : d < N) : Yield P N o env (.c (.d (.row ((xs.take h).drop l)))) := by
  refine yield_of hdst hd fun env' he base w0 ro0 ro blk a w hsim => ?_
  have hv := hsim.getD (x := x) (by rw [he.getD (by simp [hop, Op.operands])]; exact hx)
  obtain ⟨e, inf, hu, hinf, hs⟩ := elemSize_parts hT
  obtain ⟨ad, cap, hv, hm, hlc, hrow⟩ := rep_row hv
  have m1 : ∀ y, lo = some y → y ∈ o.op.operands := fun y hy => by simp [hop, Op.operands, hy]
  have m2 : ∀ y, hi = some y → y ∈ o.op.operands := fun y hy => by simp [hop, Op.operands, hy]
  have hr := run_bounds hsim (isS := true) (len := xs.length) (cap := cap) hlc (by rw [bnd_agree he m1]; exact hl) (by rw [bnd_agree he m2]; exact hh) h1 h2
  refine ⟨.slice (if cap = l then ad else ad.map (·.add (l * inf.size))) (h - l) (cap - l), w, ro, ?_, Grow.refl hsim.new, ?_⟩
  · simp [execOp, hop, Instr.sliceAt, run_underlying hu, Instr.slice, hv, hr, sizeOf, typeInfo, hinf]
  · have hlen : ((xs.take h).drop l).length = h - l := by rw [List.length_drop, List.length_take]; omega
    by_cases h0 : h - l = 0
    · have : (xs.take h).drop l = [] := List.length_eq_zero_iff.1 (by omega)
      rw [this, h0]
      exact .nil (by omega)
    · have hne : xs ≠ [] := by intro e; subst e; simp at h2; omega
      obtain ⟨b, off, sz', us, rfl, g1, g2, g3, g4, g5⟩ := hrow hne
      obtain ⟨y, hy⟩ := List.exists_mem_of_ne_nil _ hne
      obtain rfl : sz' = sz := (g3 y hy).symm.trans (hsz y hy)
      subst hs
      rw [if_neg (by omega), Option.map_some, add_spot, ← hlen]
      have hwt : ∀ x ∈ xs.take h, x.cells.length = inf.size := fun x hx => g3 x (List.mem_of_mem_take hx)
      have hfl : flat ((xs.take h).drop l) = ((flat xs).take (h * inf.size)).drop (l * inf.size) := by
        rw [flat_drop hwt (by rw [List.length_take]; omega), flat_take g3 h2]
      refine .row ((us.take (h * inf.size)).drop (l * inf.size)) g1 (by omega) (by omega) ?_ (fun x hx => hwt x (List.mem_of_mem_drop hx)) (fun u hu => g4.2.1 u (List.mem_of_mem_take (List.mem_of_mem_drop hu))) ?_ ?_
      · rw [List.length_drop, List.length_take, hlen, g2, Nat.min_eq_left (Nat.mul_le_mul_right _ h2), Nat.sub_mul]
      · intro j u hj
        rw [List.getElem?_drop, List.getElem?_take] at hj
        split at hj
        · have := g5 _ u hj
          rwa [← Nat.add_assoc] at this
        · cases hj
      · rw [hfl]
        exact ((g4.take (h * inf.size)).drop (l * inf.size)).2.2
end
end Go.Vm
