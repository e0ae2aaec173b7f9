/- The plain reading: new variables, stores, slices that are made and appended to, calls. -/
import Derived.Test.YthkgbmekiclgmaaVm4
namespace Go.Vm
open Go.RowKit
set_option linter.unusedVariables false
set_option linter.unusedSimpArgs false

def Roles.set (ro : Roles) (b : Nat) (r : Role) : Roles := fun k => if k = b then r else ro k
/-- Addresses inside slot d's variable that is gone are no longer known. -/
def unref (d : Nat) : S → S
  | .ref t off => if t = d then .junk else .ref t off
  | s => s
def boxEnv (env : Env) (d : Nat) (cs : List D) : Env := fun t => if t = d then .box cs else unref d (env t)
def demoteC (τ : Nat) : C → C
  | .own τ' e xs => if τ' = τ then .d (.row xs) else .own τ' e xs
  | c => c
def demote (τ : Nat) : S → S
  | .c x => .c (demoteC τ x)
  | .tup cs => .tup (cs.map (demoteC τ))
  | s => s
def spend (env : Env) (τ : Nat) : Env := fun t => demote τ (env t)
/-- An element type: its number, its cells, its bytes. -/
def elemFull (P : Program) (t : TypeId) : Option (TypeId × Nat × Nat) := match P.underlying t with
  | some (.slice e) => match P.info? e with
    | some i => match i.zero with
      | some z => if z.cells.size = i.size ∧ 0 < i.size then some (e, i.size, i.bytes) else none
      | none => none
    | none => none
  | _ => none
def denseFrom : Nat → List D → List (Nat × D)
  | _, [] => []
  | k, x :: xs => (k, x) :: denseFrom (k + 1) xs
def bytesD (s : ByteArray) : List D := s.data.toList.map fun b => D.sc (.int .u8 b.toNat)
def enters (P : Program) (f : FuncId) : Bool := match P.funcs[f]? with
  | some fn => fn.name != "runtime.NumGoroutine" && fn.body.isSome
  | none => false
def setTok (τ : Nat) : C → C
  | .own _ e xs => .own τ e xs
  | c => c
def resS : List C → S
  | [c] => .c c
  | cs => .tup cs
def vargs (env : Env) : List Operand → Option (List D)
  | [] => some []
  | x :: l => match vd env x, vargs env l with
    | some d, some ds => some (d :: ds)
    | _, _ => none
/-- What a function answers to data: it makes memory of its own at most. -/
def Contract (P : Program) (f : FuncId) (args : List D) (res : List C) : Prop :=
  ∀ (ro : Roles) (w : World) (vs : Array Value) (τ : Nat), (∀ b, w.heap.size ≤ b → ro b = .frozen) → vs.size = args.length → (∀ (i : Nat) (v : Value) (d : D), vs.toList[i]? = some v → args[i]? = some d → Rep ro w v d) →
    Calls P f vs w fun e w' => ∃ v ro', e = .returned v ∧ Grow ro ro' w w' ∧ SatS P w.heap.size ro' (fun _ => 0) w' 0 v (resS (res.map (setTok τ)))

section
variable {P : Program} {N base : Nat} {w0 w w' : World} {ro0 ro ro' : Roles} {blk blk' : Nat → Nat} {env env' : Env} {a : Act} {o : Oper}

theorem Roles.set_same (ro : Roles) (b : Nat) (r : Role) : ro.set b r b = r := by simp [Roles.set]
theorem Roles.set_ne (ro : Roles) {b k : Nat} (r : Role) (h : k ≠ b) : ro.set b r k = ro k := by simp [Roles.set, h]

/-- A new block, in whatever role. -/
theorem Grow.new_block (hn : ∀ b, w.heap.size ≤ b → ro b = .frozen) (ob : Obj) (r : Role) : Grow ro (ro.set w.heap.size r) w (w.alloc ob) := by
  refine ⟨(Below.refl _ _).alloc (Nat.le_refl _) ob, fun b hb => Roles.set_ne _ _ (by omega), fun b hb => ?_⟩
  rw [World.size_alloc] at hb
  rw [Roles.set_ne _ _ (by omega)]
  exact hn b (by omega)

/-- A variable of the call's own comes, in slot d. -/
theorem SimM.box (h : SimM P N base w0 ro0 ro blk env a w) {d : Nat} (hd : d < N) {arr : Array Value} {cs : List D} {e : TypeId} (hr : Reps ro w arr.toList cs) :
    SimM P N base w0 ro0 (ro.set w.heap.size (.box d)) (fun t => if t = d then w.heap.size else blk t) (boxEnv env d cs) (a.put (some d) (.pointer (some ⟨w.heap.size, 0, none⟩))) (w.alloc (.cells arr e)) := by
  have hg := Grow.new_block (ro := ro) h.new (.cells arr e) (.box d)
  refine ⟨h.below.trans (hg.below.mono h.room), Nat.le_trans h.room hg.below.size, by simpa [Act.put] using h.nodef, by simpa [Act.put] using h.size, fun b hb => (hg.role b (Nat.lt_of_lt_of_le hb h.room)).trans (h.old b hb), hg.new, fun t => ?_⟩
  rw [getD_put]
  by_cases et : t = d
  · subst et
    rw [if_pos ⟨rfl, by rw [h.size]; exact hd⟩]
    simp only [boxEnv, if_true]
    refine ⟨by simp, ?_⟩
    simp only [if_true]
    exact ⟨h.room, Roles.set_same _ _ _, arr, e, heap_alloc_new w _, hr.evolve hg.cell⟩
  · rw [if_neg (fun k => et k.1)]
    simp only [boxEnv, if_neg et]
    have hs := (h.sat t).grow hg (blk' := blk) fun _ => rfl
    cases hst : env t with
    | ref t' off =>
      rw [hst] at hs
      simp only [unref]
      split
      · trivial
      · rename_i hne; show _ = _; dsimp only; rw [if_neg hne]; exact hs
    | box cs' =>
      rw [hst] at hs
      show _ ∧ _
      dsimp only; rw [if_neg et]; exact hs
    | junk => trivial
    | c x => rw [hst] at hs; exact hs
    | at_ cs' off => rw [hst] at hs; exact hs
    | tup cs' => rw [hst] at hs; exact hs

theorem s_box {T : TypeId} {x : Operand} {r : D} (hop : o.op = .box T x) (hx : vd env x = some r) {d : Nat} (hdst : o.dst = some d) (hd : d < N) : Step P N o env (boxEnv env d r.cells) := by
  intro base w0 ro0 a w ⟨ro, blk, hs⟩ K Q hK
  have hv := (hs.getD hx).cells
  unfold Oper.wp
  have hrun : (execOp a.eval o).run P w = .ok (.value (.pointer (some ⟨w.heap.size, 0, none⟩))) (w.alloc (.cells (a.eval x).cells T)) := by
    simp [execOp, hop, Instr.box, newVar, newRow]
  rw [hrun, Oper.upon_value, hdst]
  exact hK _ _ ⟨_, _, hs.box hd hv⟩

theorem zeroOf_parts {T : TypeId} {cs : List D} (h : zeroOf P T = some cs) : ∃ i z, P.info? T = some i ∧ i.zero = some z ∧ zeroDs z.cells.toList = some cs := by
  unfold zeroOf at h
  split at h
  · rename_i i hi
    split at h
    · rename_i z hz; exact ⟨i, z, hi, hz, h⟩
    · cases h
  · cases h
theorem s_alloc {T : TypeId} {cs : List D} (hop : o.op = .alloc T) (hz : zeroOf P T = some cs) {d : Nat} (hdst : o.dst = some d) (hd : d < N) : Step P N o env (boxEnv env d cs) := by
  intro base w0 ro0 a w ⟨ro, blk, hs⟩ K Q hK
  obtain ⟨i, z, hi, hzz, hzd⟩ := zeroOf_parts hz
  unfold Oper.wp
  have hrun : (execOp a.eval o).run P w = .ok (.value (.pointer (some ⟨w.heap.size, 0, none⟩))) (w.alloc (.cells z.cells T)) := by
    simp [execOp, hop, Instr.alloc, zeroValue, typeInfo, hi, hzz, newVar, newRow]
  rw [hrun, Oper.upon_value, hdst]
  exact hK _ _ ⟨_, _, hs.box hd (zeroDs_reps hzd)⟩

/-- A block of the call's own is written, where nobody looks. -/
theorem SatS.write {g : Nat} {t : Nat} {v : Value} {s : S} (h : SatS P base ro blk w t v s) (hc : ∀ b off u, okAt ro b off → w.cell? ⟨b, off, none⟩ = some u → w'.cell? ⟨b, off, none⟩ = some u ∧ okAt ro' b off)
    (hb : ∀ k, k ≠ g → w'.heap[k]? = w.heap[k]?) (hro : ∀ k, k ≠ g → ro' k = ro k) (hbox : ∀ cs, s = .box cs → blk t ≠ g) (hown : ∀ τ n, ro g = .row τ n → s = demote τ s) : SatS P base ro' blk w' t v s := by
  have key : ∀ (u : Value) (c : C), SatC P base ro w u c → (∀ τ n, ro g = .row τ n → c = demoteC τ c) → SatC P base ro' w' u c := by
    intro u c h hd
    cases c with
    | d x => exact Rep.evolve hc h
    | nil => exact h
    | own τ e xs =>
      obtain ⟨sz, us, h1, h2, h3, h4, h5, h6⟩ := h
      have hne : ∀ k, u.ownBlock = some k → k ≠ g := by
        intro k hk e
        have hk2 := h6 k hk
        rw [e] at hk2
        have := hd τ _ hk2
        simp [demoteC] at this
      refine ⟨sz, us, h1, h2, own_kept h3 (fun k hk => hb k (hne k hk)), h4, h5.evolve hc, fun k hk => ?_⟩
      rw [hro k (hne k hk)]; exact h6 k hk
  cases s with
  | junk => trivial
  | c x => exact key v x h fun τ n e => by have := hown τ n e; simpa [demote] using this
  | box cs =>
    obtain ⟨h0, h2, h3, arr, e, h4, h5⟩ := h
    have hne := hbox cs rfl
    exact ⟨h0, h2, by rw [hro _ hne]; exact h3, arr, e, (hb _ hne).trans h4, h5.evolve hc⟩
  | ref t' off => exact h
  | at_ cs off =>
    obtain ⟨b, o, us, h1, h2, h3⟩ := h
    exact ⟨b, o, us, h1, h2.evolve hc, fun j u hu => hc _ _ _ (h3 j u hu).2 (h3 j u hu).1⟩
  | tup cs =>
    obtain ⟨arr, h1, h2, h3⟩ := h
    refine ⟨arr, h1, h2, fun i u c hu hci => key u c (h3 i u c hu hci) fun τ n e => ?_⟩
    have := hown τ n e
    simp only [demote, S.tup.injEq] at this
    have h4 : (cs.map (demoteC τ))[i]? = some c := by rw [← this]; exact hci
    rw [List.getElem?_map, hci] at h4
    simpa using h4.symm

theorem s_store {T : TypeId} {x y : Operand} {t off : Nat} {cs : List D} {r : D} {sh : Bool × Nat} (hop : o.op = .store T x y) (hx : vget env x = .ref t off) (hb : env t = .box cs) (hy : vd env y = some r) (hsh : tshape P T = some sh) (hn : r.cells.length = sh.2) (hoff : off + r.cells.length ≤ cs.length) (hdst : o.dst = none) :
    Step P N o env (upd env (some t) (.box (patch cs off r.cells))) := by
  intro base w0 ro0 a w ⟨ro, blk, hs⟩ K Q hK
  have h1 := hs.get x 0
  rw [hx] at h1
  have h2 := hs.sat t
  rw [hb] at h2
  obtain ⟨h20, h21, h22, arr, e, h23, h24⟩ := h2
  have hv := (hs.getD hy).cells
  obtain ⟨ag, n⟩ := sh
  obtain ⟨i, dd, k1, k2, k3, k4⟩ := tshape_parts hsh
  have hvs : (a.eval y).cells.size = i.size := by have := hv.1; simp at this; omega
  have harr : arr.size = cs.length := by simpa using h24.1
  have hlen : (a.eval y).cells.toList.length = r.cells.length := hv.1
  have hst := run_storeCells_at P (blk t) off e (a.eval y).cells.toList 0 arr w h23 (by rw [hlen]; omega) hv.2.1
  simp only [Nat.add_zero] at hst
  have hrun : (execOp a.eval o).run P w = .ok .skip (w.setRow (blk t) (arr.toList.take off ++ (a.eval y).cells.toList ++ arr.toList.drop (off + (a.eval y).cells.toList.length)).toArray) := by
    simp only [execOp, hop, Instr.storeAt, show a.eval x = _ from h1, Instr.sureAddr, storeVar, sizeOf, typeInfo, Sem.run_bind, Sem.run_pure, Result.andThen_ok]
    simp [k1, hvs, hst]
  unfold Oper.wp
  rw [hrun, Oper.upon_skip, hdst]
  refine hK _ _ ⟨ro, blk, ?_⟩
  have hblk : ∀ k, k ≠ blk t → (w.setRow (blk t) (arr.toList.take off ++ (a.eval y).cells.toList ++ arr.toList.drop (off + (a.eval y).cells.toList.length)).toArray).heap[k]? = w.heap[k]? := fun k hk => setRow_other w _ k _ hk
  have hc : ∀ b off' u, okAt ro b off' → w.cell? ⟨b, off', none⟩ = some u → (w.setRow (blk t) (arr.toList.take off ++ (a.eval y).cells.toList ++ arr.toList.drop (off + (a.eval y).cells.toList.length)).toArray).cell? ⟨b, off', none⟩ = some u ∧ okAt ro b off' := by
    intro b off' u hok hcu
    have hne : b ≠ blk t := by intro e; subst e; unfold okAt at hok; rw [h22] at hok; exact hok
    exact ⟨by rw [World.cell?_of_block (w := w) (a := ⟨b, off', none⟩) (hblk b hne)]; exact hcu, hok⟩
  refine ⟨hs.below.trans ⟨rfl, rfl, rfl, by simp, fun k hk => hblk k (by omega)⟩, by simpa using hs.room, hs.nodef, hs.size, hs.old, fun b hb => hs.new b (by simpa using hb), fun s => ?_⟩
  show SatS P base ro blk _ s (a.tmps.getD s undef) _
  by_cases es : s = t
  · subst es
    simp only [upd, if_true]
    refine ⟨h20, h21, h22, _, e, setRow_heap w _ arr _ e _ h23, ?_⟩
    rw [List.toList_toArray]
    exact (h24.evolve hc).patch (hv.evolve hc) off
  · simp only [upd, if_neg es]
    refine (hs.sat s).write (g := blk t) hc hblk (fun _ _ => rfl) (fun cs' e2 e3 => ?_) (fun τ n e2 => by rw [h22] at e2; cases e2)
    · have := hs.sat s
      rw [e2] at this
      have h5 := this.2.2.1
      rw [e3, h22] at h5
      injection h5 with h5; exact es h5.symm

/-! ### Slices of the call's own -/
theorem elemFull_parts {T e : TypeId} {sz bytes : Nat} (h : elemFull P T = some (e, sz, bytes)) : ∃ i z, P.underlying T = some (.slice e) ∧ P.info? e = some i ∧ i.zero = some z ∧ i.size = sz ∧ i.bytes = bytes ∧ z.cells.size = sz ∧ 0 < sz ∧ P.cellsOf e = sz := by
  unfold elemFull at h
  split at h
  · rename_i e' hu
    split at h
    · rename_i i hi
      split at h
      · rename_i z hz
        split at h
        · rename_i hc
          simp only [Option.some.injEq, Prod.mk.injEq] at h
          obtain ⟨rfl, rfl, rfl⟩ := h
          exact ⟨i, z, hu, hi, hz, rfl, rfl, hc.1, hc.2, by simp [Program.cellsOf, hi]⟩
        · cases h
      · cases h
    · cases h
  · cases h

/-- A new row of the call's own in slot d. -/
theorem SimM.own (h : SimM P N base w0 ro0 ro blk env a w) {d : Nat} {e : TypeId} {sz : Nat} {xs : List D} {us : List Value} {cap : Nat} {cur : Array Value} (h0 : 0 < sz) (hc : P.cellsOf e = sz) (hw : ∀ x ∈ xs, x.cells.length = sz) (hr : Reps ro w us (flat xs))
    (hcap : xs.length ≤ cap) (hm : cap ≤ maxLen) (hcs : cur.size = cap * sz) (ht : cur.toList.take (xs.length * sz) = us) :
    Grow ro (ro.set w.heap.size (.row d (xs.length * sz))) w (w.alloc (.cells cur e)) ∧ SatS P base (ro.set w.heap.size (.row d (xs.length * sz))) blk (w.alloc (.cells cur e)) d (.slice (some ⟨w.heap.size, 0, none⟩) xs.length cap) (.c (.own d e xs)) := by
  have hg := Grow.new_block (ro := ro) h.new (.cells cur e) (.row d (xs.length * sz))
  refine ⟨hg, sz, us, h0, hc, ⟨by rw [hr.1, flat_length hw], .inr ⟨w.heap.size, cap, cur, rfl, h.room, heap_alloc_new w _, hcap, hm, hcs, ht⟩⟩, hw, hr.evolve hg.cell, fun g hgk => ?_⟩
  have : w.heap.size = g := by simpa [Value.ownBlock] using hgk
  subst this
  exact Roles.set_same _ _ _

theorem y_make {T e : TypeId} {sz bytes : Nat} {l c : Operand} {kl kc : IntKind} {n : Nat} (hop : o.op = .makeSlice T l c) (hT : elemFull P T = some (e, sz, bytes)) (hl : vd env l = some (.sc (.int kl 0))) (hc : vd env c = some (.sc (.int kc (n : Int)))) (hb : bytes * n ≤ 281474976710656) (hm : n ≤ maxLen) {d : Nat} (hdst : o.dst = some d) (hd : d < N) : Yield P N o env (.c (.own d e [])) := by
  refine yield_of hdst hd fun env' he base w0 ro0 ro blk a w hsim => ?_
  obtain ⟨i, z, h1, h2, h3, h4, h5, h6, h7, h8⟩ := elemFull_parts hT
  have e1 := (rep_sc (hsim.getD (x := l) (by rw [he.getD (by simp [hop, Op.operands])]; exact hl))).1
  have e2 := (rep_sc (hsim.getD (x := c) (by rw [he.getD (by simp [hop, Op.operands])]; exact hc))).1
  obtain ⟨w', hrun, hown, hgr⟩ := run_make_own (P := P) w base T e i z sz h1 h2 h3 h4 kl kc n (by rw [h5]; exact hb) hm hsim.room
  have hg : Grow ro (ro.set w.heap.size (.row d 0)) w w' := by
    refine ⟨⟨hgr.os, hgr.tape, hgr.output, hgr.size, fun k hk => hgr.block k hk (by simp)⟩, fun b hb => Roles.set_ne _ _ (by omega), fun b hb => ?_⟩
    have hlt := (hown.lt w.heap.size rfl).2
    rw [Roles.set_ne _ _ (by omega)]
    exact hsim.new b (by have := hgr.size; omega)
  refine ⟨.slice (some ⟨w.heap.size, 0, none⟩) 0 n, w', ro.set w.heap.size (.row d 0), by simp [execOp, hop, e1, e2, hrun], hg, sz, [], h7, h8, by simpa using hown, by simp, by simpa [flat] using Reps.nil, fun g hgk => ?_⟩
  have : w.heap.size = g := by simpa [Value.ownBlock] using hgk
  subst this
  simpa using Roles.set_same ro _ _

/-- What is appended. -/
theorem src_of_rep {T e : TypeId} {sz : Nat} {v : Value} {ys : List D} (hT : P.underlying T = some (.slice e)) (h : Rep ro w v (.row ys)) (hw : ∀ y ∈ ys, y.cells.length = sz) : ∃ news, Src P sz T v ys.length news w ∧ Reps ro w news (flat ys) := by
  obtain ⟨ad, cap, rfl, hm, hc, hrow⟩ := rep_row h
  by_cases h0 : ys = []
  · subst h0
    refine ⟨[], ?_, by simpa [flat] using Reps.nil⟩
    cases ad with
    | none => exact Src.ofNil w hT cap
    | some ad => exact Src.ofSlice w hT ad 0 cap [] (by simp) (by simp) (by simp)
  · obtain ⟨b, off, sz', us, rfl, g1, g2, g3, g4, g5⟩ := hrow h0
    obtain ⟨y, hy⟩ := List.exists_mem_of_ne_nil _ h0
    obtain rfl : sz' = sz := (g3 y hy).symm.trans (hw y hy)
    exact ⟨us, Src.ofSlice w hT ⟨b, off, none⟩ _ cap us g2 (fun j u hu => by rw [add_spot]; exact (g5 j u hu).1) g4.2.1, g4⟩

theorem run_append_in {T tx ty e : TypeId} {i : TypeInfo} (ht : P.underlying T = some (.slice e)) (hi : P.info? e = some i) {g sLen sCap : Nat} {cur : Array Value} (hg : w.heap[g]? = some (.cells cur e (0, 0))) {x : Value} {n : Nat} {news : List Value} (hs : Src P i.size tx x n news w)
    (hroom : sLen + n ≤ sCap) (hfit : sLen * i.size + news.length ≤ cur.size) :
    (Builtin.append_ #[T, tx] ty #[.slice (some ⟨g, 0, none⟩) sLen sCap, x]).run P w = .ok (.slice (some ⟨g, 0, none⟩) (sLen + n) sCap) (w.setRow g (cur.toList.take (sLen * i.size) ++ news ++ cur.toList.drop (sLen * i.size + news.length)).toArray) := by
  have hst := run_storeCells_at P g (sLen * i.size) e news 0 cur w hg (by simpa using hfit) hs.one
  simp only [Nat.add_zero] at hst
  rcases hs.kind with ⟨e', hk⟩ | hk <;> simp [Builtin.append_, run_underlying ht, run_underlying hk, sizeOf, typeInfo, hi, hs.len, hroom, hs.cells, Addr.add_lit, hst]

theorem demoteC_idem (τ : Nat) (c : C) : demoteC τ (demoteC τ c) = demoteC τ c := by
  cases c with
  | own τ' e xs => by_cases h : τ' = τ <;> simp [demoteC, h]
  | _ => rfl
theorem demote_idem (τ : Nat) (s : S) : demote τ s = demote τ (demote τ s) := by
  cases s with
  | c x => simp [demote, demoteC_idem]
  | tup cs => simp [demote, demoteC_idem]
  | _ => rfl
theorem SatC.demote {v : Value} {c : C} (τ : Nat) (h : SatC P base ro w v c) : SatC P base ro w v (demoteC τ c) := by
  cases c with
  | own τ' e xs =>
    simp only [demoteC]
    split
    · exact h.rep
    · exact h
  | _ => exact h
theorem SatS.demote {t : Nat} {v : Value} {s : S} (τ : Nat) (h : SatS P base ro blk w t v s) : SatS P base ro blk w t v (demote τ s) := by
  cases s with
  | c x => exact SatC.demote τ h
  | tup cs =>
    obtain ⟨arr, h1, h2, h3⟩ := h
    refine ⟨arr, h1, by simpa using h2, fun i u c hu hc => ?_⟩
    rw [List.getElem?_map] at hc
    cases hci : cs[i]? with
    | none => rw [hci] at hc; cases hc
    | some c' =>
      rw [hci] at hc
      simp only [Option.map_some, Option.some.injEq] at hc
      subst hc
      exact (h3 i u c' hu hci).demote τ
  | _ => exact h

/-- An append to a row of the call's own. -/
theorem append_own (hsim : SimM P N base w0 ro0 ro blk env a w) {T tx e ty : TypeId} {sz bytes τ : Nat} {xs ys : List D} {v y : Value} {news : List Value} (hT : elemFull P T = some (e, sz, bytes)) (hv : SatC P base ro w v (.own τ e xs)) (hs : Src P sz tx y ys.length news w) (hn : Reps ro w news (flat ys)) (hwy : ∀ y ∈ ys, y.cells.length = sz)
    (h63 : xs.length + ys.length ≤ maxLen) (hby : (xs.length + ys.length) * bytes ≤ 140737488355328) {d : Nat} (hd : d < N) :
    ∃ v' w', (Builtin.append_ #[T, tx] ty #[v, y]).run P w = .ok v' w' ∧ Sim P N base w0 ro0 (upd (spend env τ) (some d) (.c (.own d e (xs ++ ys)))) (a.put (some d) v') w' := by
  obtain ⟨i, z, h1, h2, h3, h4, h5, h6, h7, h8⟩ := elemFull_parts hT
  obtain ⟨sz', us, k1, k2, k3, k4, k5, k6⟩ := hv
  obtain rfl : sz' = sz := k2.symm.trans h8
  subst h4
  have hwxy : ∀ x ∈ xs ++ ys, x.cells.length = i.size := fun x hx => by
    rcases List.mem_append.1 hx with hx | hx
    · exact k4 x hx
    · exact hwy x hx
  have hsp : SimM P N base w0 ro0 ro blk (spend env τ) a w := ⟨hsim.below, hsim.room, hsim.nodef, hsim.size, hsim.old, hsim.new, fun t => (hsim.sat t).demote τ⟩
  have hrall : Reps ro w (us ++ news) (flat (xs ++ ys)) := by rw [flat_append]; exact k5.append hn
  have hbig : (xs.length + ys.length : Nat) ≤ 9223372036854775807 := by simp only [maxLen] at h63; omega
  have hlen : (us ++ news).length = (xs.length + ys.length) * i.size := by rw [List.length_append, k3.1, hs.newsLen, Nat.add_mul]
  -- the arm that grows
  have grown : ∀ (v : Value) (ad : Option Addr) (old : Nat), v = .slice ad xs.length old → old < xs.length + ys.length → (Builtin.firstCells i.size xs.length (.slice ad xs.length old)).run P w.drew = .ok us.toArray w.drew →
      ∃ v' w', (Builtin.append_ #[T, tx] ty #[v, y]).run P w = .ok v' w' ∧ Sim P N base w0 ro0 (upd (spend env τ) (some d) (.c (.own d e (xs ++ ys)))) (a.put (some d) v') w' := by
    intro v ad old hv hlt hf
    subst hv
    have hr := run_append_grow_src (P := P) w T tx ty e i z h1 h2 h3 ad xs.length old us hf y ys.length news hs hlt (by omega) (growslice_fits hlt (by rw [h5]; exact hby))
    refine ⟨_, _, hr, ?_⟩
    have hge := grownCap_ge w (xs.length + ys.length) old e
    have hcm : grownCap w (xs.length + ys.length) old e ≤ maxLen := grownCap_le_maxLen w (xs.length + ys.length) old e h63
    have hdrew : SimM P N base w0 ro0 ro blk (spend env τ) a w.drew := hsp.rest ⟨(Below.refl _ _).drew, fun _ _ => rfl, hsp.new⟩
    have hk := hdrew.own (d := d) (e := e) (sz := i.size) (xs := xs ++ ys) (us := us ++ news) (cap := grownCap w (xs.length + ys.length) old e) (cur := (us ++ news).toArray ++ Builtin.zeroCells z.cells (grownCap w (xs.length + ys.length) old e - (xs.length + ys.length))) k1 h8 hwxy ?_ (by simpa using hge) hcm ?_ ?_
    · obtain ⟨hg, hsat⟩ := hk
      rw [List.length_append] at hsat hg
      exact ⟨_, _, hdrew.put hg hd hsat⟩
    · exact hrall.evolve fun b off u hok hc => ⟨by simpa using hc, hok⟩
    · simp only [Array.size_append, List.size_toArray, size_zeroCells, h6]
      rw [hlen, ← Nat.add_mul]
      congr 1; omega
    · rw [List.length_append, ← hlen]
      simp only [Array.toList_append]
      exact List.take_left
  rcases k3.2 with ⟨rfl, h00⟩ | ⟨g, cap, cur, rfl, hbg, hgh, hnc, hcm, hcs, htake⟩
  · obtain rfl : xs = [] := List.length_eq_zero_iff.1 h00
    obtain rfl : us = [] := List.length_eq_zero_iff.1 (by simpa using k3.1)
    by_cases hm : ys = []
    · subst hm
      have hne : news = [] := List.length_eq_zero_iff.1 (by simpa using hs.newsLen)
      subst hne
      refine ⟨.slice none 0 0, w, ?_, ro, blk, hsp.put (Grow.refl hsp.new) hd ?_⟩
      · have hl0 := hs.len w
        have hc0 := hs.cells
        rcases hs.kind with ⟨e', hk⟩ | hk <;> simp at hl0 hc0 <;> simp [Builtin.append_, run_underlying h1, run_underlying hk, sizeOf, typeInfo, h2, hl0, hc0]
      · exact ⟨i.size, [], k1, h8, World.ownsRow_nil w base e i.size, by simp, by simpa [flat] using Reps.nil, fun g hgk => by simp [Value.ownBlock] at hgk⟩
    · exact grown _ none 0 rfl (by have := List.length_pos_iff.2 hm; rw [List.length_nil]; omega) (run_firstCells_none (P := P) w.drew i.size 0 0 0)
  · by_cases hroom : xs.length + ys.length ≤ cap
    · have hfit : xs.length * i.size + news.length ≤ cur.size := by rw [hs.newsLen, hcs, ← Nat.add_mul]; exact Nat.mul_le_mul_right _ hroom
      have hr := run_append_in (P := P) (ty := ty) h1 h2 hgh hs hroom hfit
      refine ⟨_, _, hr, ro.set g (.row d ((xs.length + ys.length) * i.size)), blk, ?_⟩
      have hrg := k6 g rfl
      have hglt := block_lt hgh
      have hblk : ∀ k, k ≠ g → (w.setRow g (cur.toList.take (xs.length * i.size) ++ news ++ cur.toList.drop (xs.length * i.size + news.length)).toArray).heap[k]? = w.heap[k]? := fun k hk => setRow_other w _ k _ hk
      have hnew := setRow_heap w g cur (cur.toList.take (xs.length * i.size) ++ news ++ cur.toList.drop (xs.length * i.size + news.length)).toArray e (0, 0) hgh
      have hc : ∀ b off' u, okAt ro b off' → w.cell? ⟨b, off', none⟩ = some u → (w.setRow g (cur.toList.take (xs.length * i.size) ++ news ++ cur.toList.drop (xs.length * i.size + news.length)).toArray).cell? ⟨b, off', none⟩ = some u ∧ okAt (ro.set g (.row d ((xs.length + ys.length) * i.size))) b off' := by
        intro b off' u hok hcu
        by_cases hne : b = g
        · subst hne
          unfold okAt at hok
          rw [hrg] at hok
          simp only at hok
          constructor
          · rw [cell_of_row _ b off' _ e (0, 0) hnew]
            rw [cell_of_row _ b off' _ e (0, 0) hgh] at hcu
            have hle : off' < (cur.toList.take (xs.length * i.size)).length := by rw [htake, k3.1]; exact hok
            rw [List.getElem?_toArray, List.append_assoc, List.getElem?_append_left hle, List.getElem?_take, if_pos hok]
            simpa using hcu
          · unfold okAt
            rw [Roles.set_same]
            show off' < (xs.length + ys.length) * i.size
            rw [Nat.add_mul]; omega
        · refine ⟨by rw [World.cell?_of_block (w := w) (a := ⟨b, off', none⟩) (hblk b hne)]; exact hcu, ?_⟩
          unfold okAt at *; rw [Roles.set_ne _ _ hne]; exact hok
      refine ⟨hsp.below.trans ⟨rfl, rfl, rfl, by simp, fun k hk => hblk k (by omega)⟩, by simpa using hsp.room, by simpa [Act.put] using hsp.nodef, by simpa [Act.put] using hsp.size, fun b hb => by rw [Roles.set_ne _ _ (by omega)]; exact hsp.old b hb, fun b hb => by rw [Roles.set_ne _ _ (by simp at hb; omega)]; exact hsp.new b (by simpa using hb), fun t => ?_⟩
      rw [getD_put]
      by_cases et : t = d
      · subst et
        rw [if_pos ⟨rfl, by rw [hsp.size]; exact hd⟩]
        simp only [upd, if_true]
        refine ⟨i.size, us ++ news, k1, h8, ⟨by rw [hlen, List.length_append], .inr ⟨g, cap, _, by rw [List.length_append], hbg, hnew, by rw [List.length_append]; exact hroom, hcm, ?_, ?_⟩⟩, hwxy, hrall.evolve hc, fun g' hg' => ?_⟩
        · simp only [List.size_toArray, List.length_append, List.length_take, List.length_drop, Array.length_toList]
          omega
        · rw [htake, List.length_append, ← hlen]
          exact List.take_left
        · have : g = g' := by simpa [Value.ownBlock] using hg'
          subst this
          rw [Roles.set_same, List.length_append]
      · rw [if_neg (fun k => et k.1)]
        simp only [upd, if_neg et]
        refine (hsp.sat t).write (g := g) hc hblk (fun k hk => Roles.set_ne _ _ hk) (fun cs' e2 e3 => ?_) (fun τ' n e2 => ?_)
        · have := hsp.sat t
          rw [e2] at this
          have h5 := this.2.2.1
          rw [e3, hrg] at h5
          cases h5
        · rw [hrg] at e2
          injection e2 with e2 _
          subst e2
          exact demote_idem _ _
    · have holds := k3.cells (g := g) rfl
      refine grown _ (some ⟨g, 0, none⟩) cap rfl (by omega) ?_
      exact run_firstCells_some (P := P) w.drew i.size xs.length ⟨g, 0, none⟩ xs.length cap us k3.1 (by simpa using holds)

theorem upd_some (env : Env) (d : Nat) (s : S) : upd env (some d) s = fun u => if u = d then s else env u := rfl

theorem s_append {T e : TypeId} {sz bytes τ : Nat} {x y : Operand} {xs ys : List D} (hop : o.op = .call { callee := .builtin .append, args := #[x, y], argTypes := #[T, T] }) (hT : elemFull P T = some (e, sz, bytes)) (hx : vget env x = .c (.own τ e xs)) (hy : vd env y = some (.row ys)) (hw : ∀ y ∈ ys, y.cells.length = sz)
    (h63 : xs.length + ys.length ≤ maxLen) (hby : (xs.length + ys.length) * bytes ≤ 140737488355328) {d : Nat} (hdst : o.dst = some d) (hd : d < N) : Step P N o env (upd (spend env τ) (some d) (.c (.own d e (xs ++ ys)))) := by
  intro base w0 ro0 a w ⟨ro, blk, hs⟩ K Q hK
  have h1 := hs.get x 0
  rw [hx] at h1
  obtain ⟨i, z, e1, _⟩ := elemFull_parts hT
  obtain ⟨news, h2, h3⟩ := src_of_rep (P := P) e1 (hs.getD hy) hw
  obtain ⟨v', w', h4, h5⟩ := append_own (ty := o.type) hs hT h1 h2 h3 hw h63 hby hd
  unfold Oper.wp
  have hrun : (execOp a.eval o).run P w = .ok (.value v') w' := by
    simp only [execOp, hop, resolve, invoke, builtin, Sem.run_bind, Sem.run_pure, Result.andThen_ok, List.map_toArray, List.map_cons, List.map_nil, h4]
  rw [hrun, Oper.upon_value, hdst]
  exact hK _ _ h5
theorem s_append_str {T tx e : TypeId} {bytes τ : Nat} {x y : Operand} {xs : List D} {s : ByteArray} (hop : o.op = .call { callee := .builtin .append, args := #[x, y], argTypes := #[T, tx] }) (hT : elemFull P T = some (e, 1, bytes)) (htx : P.underlying tx = some .string) (hx : vget env x = .c (.own τ e xs)) (hy : vd env y = some (.sc (.string s)))
    (h63 : xs.length + s.size ≤ maxLen) (hby : (xs.length + s.size) * bytes ≤ 140737488355328) {d : Nat} (hdst : o.dst = some d) (hd : d < N) : Step P N o env (upd (spend env τ) (some d) (.c (.own d e (xs ++ bytesD s)))) := by
  intro base w0 ro0 a w ⟨ro, blk, hs⟩ K Q hK
  have h1 := hs.get x 0
  rw [hx] at h1
  have hv := (rep_sc (hs.getD hy)).1
  have hbl : (bytesD s).length = s.size := by simp [bytesD]
  have hfl : flat (bytesD s) = bytesD s := by
    unfold flat bytesD
    induction s.data.toList with
    | nil => rfl
    | cons b l ih => simp only [List.map_cons, List.flatMap_cons, ih]; rfl
  have h3 : Reps ro w (byteCells s) (flat (bytesD s)) := by
    rw [hfl]
    refine ⟨by rw [byteCells_length, hbl], (Src.ofString (P := P) w htx s).one, fun j u c hu hc => ?_⟩
    unfold byteCells at hu
    unfold bytesD at hc
    rw [List.getElem?_map] at hu hc
    cases hj : s.data.toList[j]? with
    | none => rw [hj] at hu; cases hu
    | some b => rw [hj] at hu hc; simp at hu hc; subst hu hc; exact .sc rfl
  obtain ⟨v', w', h4, h5⟩ := append_own (ty := o.type) (ys := bytesD s) hs hT h1 (by rw [hbl]; exact Src.ofString (P := P) w htx s) h3 (fun y hy => by obtain ⟨b, _, rfl⟩ := List.mem_map.1 hy; rfl) (by rw [hbl]; exact h63) (by rw [hbl]; exact hby) hd
  unfold Oper.wp
  have hrun : (execOp a.eval o).run P w = .ok (.value v') w' := by
    simp only [execOp, hop, resolve, invoke, builtin, Sem.run_bind, Sem.run_pure, Result.andThen_ok, List.map_toArray, List.map_cons, List.map_nil, hv, h4]
  rw [hrun, Oper.upon_value, hdst]
  exact hK _ _ h5

/-- An append to nil: nothing is spent. -/
theorem nil_own (T : TypeId) {e : TypeId} {sz bytes τ : Nat} (hT : elemFull P T = some (e, sz, bytes)) {v : Value} (h : v = .slice none 0 0) : SatC P base ro w v (.own τ e []) := by
  subst h
  obtain ⟨i, z, h1, h2, h3, h4, h5, h6, h7, h8⟩ := elemFull_parts hT
  exact ⟨sz, [], h7, h8, World.ownsRow_nil w base e sz, by simp, by simpa [flat] using Reps.nil, fun g hg => by simp [Value.ownBlock] at hg⟩

theorem SatC.mono {b' : Nat} {v : Value} {c : C} (h : SatC P base ro w v c) (hb : b' ≤ base) : SatC P b' ro w v c := by
  cases c with
  | own τ e xs =>
    obtain ⟨sz, us, h1, h2, h3, h4, h5, h6⟩ := h
    exact ⟨sz, us, h1, h2, own_mono h3 hb, h4, h5, h6⟩
  | _ => exact h

theorem vargs_rep : ∀ {xs : List Operand} {ds : List D}, SimM P N base w0 ro0 ro blk env a w → vargs env xs = some ds → (xs.map a.eval).length = ds.length ∧ ∀ (i : Nat) (v : Value) (d : D), (xs.map a.eval)[i]? = some v → ds[i]? = some d → Rep ro w v d
  | [], ds, hs, h => by simp [vargs] at h; subst h; exact ⟨rfl, by simp⟩
  | x :: l, ds, hs, h => by
    unfold vargs at h
    split at h
    · rename_i d es h1 h2
      injection h with h; subst h
      obtain ⟨k1, k2⟩ := vargs_rep hs h2
      refine ⟨by simpa using k1, fun j p q hp hq => ?_⟩
      cases j with
      | zero => simp at hp hq; subst hp hq; exact hs.getD h1
      | succ j => exact k2 j p q (by simpa using hp) (by simpa using hq)
    · cases h
theorem vargs_agree : ∀ {xs : List Operand}, (∀ x ∈ xs, vd env' x = vd env x) → vargs env' xs = vargs env xs
  | [], _ => rfl
  | x :: l, h => by
    unfold vargs
    rw [h x (List.mem_cons_self ..), vargs_agree fun y hy => h y (List.mem_cons_of_mem _ hy)]

theorem sat_res {v : Value} {cs : List C} {t : Nat} {b : Nat → Nat} (hb : base ≤ w.heap.size) (h : SatS P w.heap.size ro' (fun _ => 0) w' 0 v (resS cs)) : SatS P base ro' b w' t v (resS cs) := by
  match cs, h with
  | [], h =>
    obtain ⟨arr, h1, h2, h3⟩ := h
    exact ⟨arr, h1, h2, fun i u c hu hc => (h3 i u c hu hc).mono hb⟩
  | [c], h => exact SatC.mono h hb
  | c :: c' :: cs, h =>
    obtain ⟨arr, h1, h2, h3⟩ := h
    exact ⟨arr, h1, h2, fun i u c hu hc => (h3 i u c hu hc).mono hb⟩

theorem y_call {f : FuncId} {xs : Array Operand} {ts : Array TypeId} {ds : List D} {res : List C} (hop : o.op = .call { callee := .value (.func f), args := xs, argTypes := ts }) (hf : enters P f = true) (hx : vargs env xs.toList = some ds) (hc : Contract P f ds res) {d : Nat} (hdst : o.dst = some d) (hd : d < N) : Yield P N o env (resS (res.map (setTok d))) := by
  intro env' he base w0 ro0 a w ⟨ro, blk, hs⟩ K Q hK
  have hx' : vargs env' xs.toList = some ds := by
    rw [← hx]
    refine vargs_agree fun x hm => he.getD ?_
    simp only [hop, Op.operands, Call.operands]
    simp [Array.mem_toList_iff.1 hm]
  obtain ⟨h1, h2⟩ := vargs_rep hs hx'
  unfold Oper.wp
  have hrun : (execOp a.eval o).run P w = .ok (.enter f (xs.map a.eval)) w := by
    unfold enters at hf
    split at hf
    · rename_i fn hfn
      simp only [Bool.and_eq_true, bne_iff_ne, ne_eq] at hf
      cases hbody : fn.body with
      | none => rw [hbody] at hf; simp at hf
      | some c => simp [execOp, hop, resolve, Act.eval, Deferred.ofValue, invoke, callFunc, hfn, hf.1, hbody]
    · cases hf
  rw [hrun, Oper.upon_enter]
  refine (hc ro w (xs.map a.eval) d hs.new (by simpa using h1) (by simpa using h2)).mono ?_
  rintro e w' ⟨v, ro', rfl, hg, hsat⟩
  rw [hdst] at hK ⊢
  exact hK _ _ ⟨ro', blk, hs.put hg hd (sat_res hs.room hsat)⟩

theorem append_nil_run {T tx e ty : TypeId} {sz bytes : Nat} {ys : List D} {y : Value} {news : List Value} (hT : elemFull P T = some (e, sz, bytes)) (hs : Src P sz tx y ys.length news w) (hn : Reps ro w news (flat ys)) (hwy : ∀ y ∈ ys, y.cells.length = sz) (hnew : ∀ b, w.heap.size ≤ b → ro b = .frozen) (hroom : base ≤ w.heap.size)
    (h63 : ys.length ≤ maxLen) (hby : ys.length * bytes ≤ 140737488355328) (d : Nat) :
    ∃ v' w' ro', (Builtin.append_ #[T, tx] ty #[.slice none 0 0, y]).run P w = .ok v' w' ∧ Grow ro ro' w w' ∧ SatC P base ro' w' v' (.own d e ys) := by
  obtain ⟨i, z, h1, h2, h3, h4, h5, h6, h7, h8⟩ := elemFull_parts hT
  subst h4
  by_cases hm : ys = []
  · subst hm
    have hne : news = [] := List.length_eq_zero_iff.1 (by simpa using hs.newsLen)
    subst hne
    refine ⟨.slice none 0 0, w, ro, ?_, Grow.refl hnew, nil_own T hT rfl⟩
    have hl0 := hs.len w
    have hc0 := hs.cells
    rcases hs.kind with ⟨e', hk⟩ | hk <;> simp at hl0 hc0 <;> simp [Builtin.append_, run_underlying h1, run_underlying hk, sizeOf, typeInfo, h2, hl0, hc0]
  · have hlt : 0 < 0 + ys.length := by have := List.length_pos_iff.2 hm; omega
    have hbig : (0 + ys.length : Nat) ≤ 9223372036854775807 := by simp only [maxLen] at h63; omega
    have hr := run_append_grow_src (P := P) w T tx ty e i z h1 h2 h3 none 0 0 [] (run_firstCells_none (P := P) w.drew i.size 0 0 0) y ys.length news hs hlt (by omega) (growslice_fits hlt (by rw [h5, Nat.zero_add]; exact hby))
    have hge := grownCap_ge w (0 + ys.length) 0 e
    have hcm : grownCap w (0 + ys.length) 0 e ≤ maxLen := grownCap_le_maxLen w (0 + ys.length) 0 e (by omega)
    rw [Nat.zero_add, List.nil_append] at hr
    rw [Nat.zero_add] at hge hcm
    have hg1 : Grow ro ro w w.drew := ⟨(Below.refl _ _).drew, fun _ _ => rfl, hnew⟩
    have hg2 := Grow.new_block (ro := ro) (w := w.drew) hnew (.cells (news.toArray ++ Builtin.zeroCells z.cells (grownCap w ys.length 0 e - ys.length)) e) (.row d (ys.length * i.size))
    refine ⟨_, _, _, hr, ⟨hg1.below.trans hg2.below, fun b hb => (hg2.role b hb).trans (hg1.role b hb), hg2.new⟩, i.size, news, h7, h8, ⟨hs.newsLen, .inr ⟨w.heap.size, _, _, rfl, hroom, heap_alloc_new w.drew _, hge, hcm, ?_, ?_⟩⟩, hwy, (hn.evolve hg1.cell).evolve hg2.cell, fun g hg => ?_⟩
    · simp only [Array.size_append, List.size_toArray, size_zeroCells, h6]
      rw [hs.newsLen, ← Nat.add_mul]
      congr 1; omega
    · rw [← hs.newsLen]
      simp only [Array.toList_append]
      exact List.take_left
    · have : w.heap.size = g := by simpa [Value.ownBlock] using hg
      subst this
      exact Roles.set_same _ _ _

theorem y_append_nil {T e : TypeId} {sz bytes : Nat} {x y : Operand} {ys : List D} (hop : o.op = .call { callee := .builtin .append, args := #[x, y], argTypes := #[T, T] }) (hT : elemFull P T = some (e, sz, bytes)) (hx : vget env x = .c .nil) (hy : vd env y = some (.row ys)) (hw : ∀ y ∈ ys, y.cells.length = sz)
    (h63 : ys.length ≤ maxLen) (hby : ys.length * bytes ≤ 140737488355328) {d : Nat} (hdst : o.dst = some d) (hd : d < N) : Yield P N o env (.c (.own d e ys)) := by
  refine yield_of hdst hd fun env' he base w0 ro0 ro blk a w hsim => ?_
  have h1 := hsim.get x 0
  rw [he.get (by simp [hop, Op.operands, Call.operands]), hx] at h1
  obtain ⟨i, z, e1, _⟩ := elemFull_parts hT
  obtain ⟨news, h2, h3⟩ := src_of_rep (P := P) e1 (hsim.getD (x := y) (by rw [he.getD (by simp [hop, Op.operands, Call.operands])]; exact hy)) hw
  obtain ⟨v', w', ro', h4, h5, h6⟩ := append_nil_run (base := base) (ty := o.type) hT h2 h3 hw hsim.new hsim.room h63 hby d
  refine ⟨v', w', ro', ?_, h5, h6⟩
  simp only [execOp, hop, resolve, invoke, builtin, Sem.run_bind, Sem.run_pure, Result.andThen_ok, List.map_toArray, List.map_cons, List.map_nil, show a.eval x = _ from h1, h4]

theorem dense_fill {sz : Nat} : ∀ {xs : List D} {k : Nat} {cs : List D}, (∀ x ∈ xs, x.cells.length = sz) → (k + xs.length) * sz ≤ cs.length → fillD (fun i => some (i * sz, sz)) cs (denseFrom k xs) = some (cs.take (k * sz) ++ flat xs ++ cs.drop ((k + xs.length) * sz))
  | [], k, cs, _, _ => by simp [denseFrom, fillD, flat]
  | x :: xs, k, cs, h, hl => by
    have hx := h x (List.mem_cons_self ..)
    have hk : k * sz + sz ≤ cs.length := by
      have : (k + 1) * sz ≤ (k + (x :: xs).length) * sz := Nat.mul_le_mul_right _ (by simp)
      rw [Nat.add_mul, Nat.one_mul] at this; omega
    have hpl : (patch cs (k * sz) x.cells).length = cs.length := by
      simp only [patch, List.length_append, List.length_take, List.length_drop, hx]; omega
    unfold denseFrom fillD
    simp only
    rw [if_pos ⟨hx, by rw [hx]; exact hk⟩, dense_fill (xs := xs) (k := k + 1) (fun y hy => h y (List.mem_cons_of_mem _ hy)) (by rw [hpl]; simp only [List.length_cons] at hl; rw [show k + 1 + xs.length = k + (xs.length + 1) by omega]; exact hl)]
    congr 1
    have e1 : (patch cs (k * sz) x.cells).take ((k + 1) * sz) = cs.take (k * sz) ++ x.cells := by
      unfold patch
      rw [List.take_left']
      rw [List.length_append, List.length_take, hx, Nat.add_mul, Nat.one_mul]; omega
    have e2 : (patch cs (k * sz) x.cells).drop ((k + 1 + xs.length) * sz) = cs.drop ((k + (x :: xs).length) * sz) := by
      unfold patch
      have hle : (cs.take (k * sz) ++ x.cells).length = (k + 1) * sz := by rw [List.length_append, List.length_take, hx, Nat.add_mul, Nat.one_mul]; omega
      rw [List.drop_append, List.drop_of_length_le (by rw [hle]; exact Nat.mul_le_mul_right _ (by omega)), List.nil_append, hle, List.drop_drop, hx]
      congr 1
      simp only [List.length_cons]
      rw [show k + 1 + xs.length = (k + 1) + xs.length from rfl, Nat.add_mul (k + 1), Nat.add_sub_cancel_left, show k + (xs.length + 1) = (k + 1) + xs.length by omega, Nat.add_mul (k + 1) xs.length, Nat.add_mul k 1, Nat.one_mul]
    rw [e1, e2]
    simp [flat]

theorem y_lit {T e : TypeId} {sz bytes len : Nat} {parts : Array (Nat × Operand)} {ds : List (Nat × D)} (hop : o.op = .buildSlice T len parts) (hT : elemFull P T = some (e, sz, bytes)) (hx : vparts env parts.toList = some ds) (hds : ds = denseFrom 0 (ds.map (·.2))) (hlen : ds.length = len) (hw : ∀ x ∈ ds.map (·.2), x.cells.length = sz) (hz : (zeroOf P e).isSome = true) (hsmall : len * sz ≤ 16777216) {d : Nat} (hdst : o.dst = some d) (hd : d < N) : Yield P N o env (.c (.own d e (ds.map (·.2)))) := by
  refine yield_of hdst hd fun env' he base w0 ro0 ro blk a w hsim => ?_
  obtain ⟨i, z, h1, h2, h3, h4, h5, h6, h7, h8⟩ := elemFull_parts hT
  subst h4
  have hx' : vparts env' parts.toList = some ds := by
    rw [← hx]
    refine vparts_agree fun x hm => he.getD ?_
    simp only [hop, Op.operands]
    exact List.mem_toArray.2 (List.mem_map.2 ⟨x, hm, rfl⟩)
  obtain ⟨k1, k2⟩ := vparts_rep hsim hx'
  obtain ⟨zs, hzs⟩ := Option.isSome_iff_exists.1 hz
  obtain ⟨i', z', q1, q2, q3⟩ := zeroOf_parts hzs
  rw [h2] at q1; injection q1 with q1; subst q1
  rw [h3] at q2; injection q2 with q2; subst q2
  have hzr := zeroDs_reps (ro := ro) (w := w) q3
  have hlenx : (ds.map (·.2)).length = len := by simpa using hlen
  have hzc : Reps ro w ((Array.range (len * i.size)).map (z.cells[· % z.cells.size]!)).toList ((List.range (len * i.size)).map fun j => zs.getD (j % z.cells.size) default) := by
    have hzl : z.cells.size = zs.length := by simpa using hzr.1
    have hmod : ∀ j, j % z.cells.size < z.cells.size := fun j => Nat.mod_lt _ (by rw [h6]; exact h7)
    have hget : ∀ j, z.cells.toList[j % z.cells.size]? = some (z.cells[j % z.cells.size]!) := fun j => by
      rw [getElem!_pos z.cells _ (hmod j)]; simp [hmod j]
    refine ⟨by simp, fun u hu => ?_, fun j u c hu hc => ?_⟩
    · simp only [Array.toList_map, Array.toList_range, List.mem_map] at hu
      obtain ⟨j, _, rfl⟩ := hu
      exact hzr.2.1 _ (List.mem_of_getElem? (hget j))
    · simp only [Array.toList_map, Array.toList_range, List.getElem?_map] at hu hc
      cases hj : (List.range (len * i.size))[j]? with
      | none => rw [hj] at hu; cases hu
      | some m =>
        rw [hj] at hu hc
        simp only [Option.map_some, Option.some.injEq] at hu hc
        subst hu hc
        refine hzr.2.2 _ _ _ (hget m) ?_
        rw [List.getD_eq_getElem?_getD, List.getElem?_eq_getElem (by rw [← hzl]; exact hmod m)]; rfl
  have hfd := dense_fill (sz := i.size) (k := 0) (cs := (List.range (len * i.size)).map fun j => zs.getD (j % z.cells.size) default) hw (by rw [Nat.zero_add, hlenx]; simp)
  rw [← hds] at hfd
  obtain ⟨cells, f1, f2⟩ := fill_rep (parts := parts.toList.map fun (i, x) => (i, a.eval x)) hzc k1 k2 hfd
  rw [Nat.zero_add, hlenx, Nat.zero_mul, List.take_zero, List.nil_append, List.drop_of_length_le (by simp), List.append_nil] at f2
  have hcs : cells.size = len * i.size := by have := f2.1; rw [flat_length hw, hlenx] at this; simpa using this
  have hk := hsim.own (d := d) (e := e) (sz := i.size) (xs := ds.map (·.2)) (us := cells.toList) (cap := len) (cur := cells) h7 h8 hw f2 (by omega) (by
    have : len ≤ len * i.size := Nat.le_mul_of_pos_right _ h7
    unfold maxLen; omega) hcs (by rw [hlenx, ← hcs, ← Array.length_toList, List.take_length])
  rw [hlenx] at hk
  refine ⟨_, _, _, ?_, hk.1, hk.2⟩
  by_cases hpos : len * i.size = 0
  · have hl0 : len = 0 := by
      rcases Nat.mul_eq_zero.1 hpos with h | h
      · exact h
      · omega
    subst hl0
    obtain rfl : cells = #[] := Array.eq_empty_of_size_eq_zero (by simpa using hcs)
    have hp0 : parts = #[] := by
      have h9 : parts.toList.length = 0 := by rw [List.length_map] at k1; omega
      exact Array.eq_empty_of_size_eq_zero (by simpa using h9)
    subst hp0
    simp [execOp, hop, Instr.buildSlice, run_underlying h1, sizeOf, typeInfo, h2, newRow, Instr.fill, show Array.range 0 = #[] from rfl]
  · have hr := run_buildSlice (P := P) w T e len (parts.map fun (i, x) => (i, a.eval x)) cells i z h1 h2 h3 (by omega) hpos (by rw [Array.toList_map]; exact f1)
    simp only [execOp, hop, Sem.run_bind, hr, Result.andThen_ok]
    rfl
end
end Go.Vm
