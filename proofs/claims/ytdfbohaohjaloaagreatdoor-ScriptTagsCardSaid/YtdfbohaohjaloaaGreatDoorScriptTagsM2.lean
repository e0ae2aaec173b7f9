/- Part 2 of what the proof of ScriptTags stands on: VmO, VmM, VmQ, VmP, VmU, VmV, VmW, VmX, Xg1, Xg2, Xg3, Xg4, Xg5, Xg6, Xg7, Xg8, LnPlain. -/
import Derived.Maps.RangeRun
import Derived.MapKept
import Derived.Deep.AppendSrc
import Derived.IntWalk
import Derived.Laws.StructEq
import Derived.Test.YtdfbohaohjaloaaGreatDoorScriptTagsM1
set_option linter.unusedVariables false
set_option linter.unusedSimpArgs false
set_option maxHeartbeats 1000000
section
namespace Go.Vm
open Go.RowKit
section
variable {P : Program} {N base : Nat} {w0 w w' : World} {ro0 : Start} {ro ro' : Roles} {blk blk' : Nat → Nat} {env env' : Env} {a : Act} {o : Oper} {ops : Array Oper} {Q : Exit → Env → Prop}
theorem rep_ptr {v : Value} {id off : Nat} (h : Rep ro w v (.ptr id off)) : ∃ b k, v = .pointer (some ⟨b, off, none⟩) ∧ b < w.heap.size ∧ ro b = .obj id k := by
  cases h with
  | ptr hb h => exact ⟨_, _, rfl, hb, h⟩
theorem rep_mp {v : Value} {id : Nat} (h : Rep ro w v (.mp id)) : ∃ b k, v = .map (some b) ∧ b < w.heap.size ∧ ro b = .obj id k := by
  cases h with
  | mp hb h => exact ⟨_, _, rfl, hb, h⟩
theorem SimM.thing (h : SimM P N base w0 ro0 ro blk env a w) {v : Value} {id off : Nat} {cs : List D} (hv : Rep ro w v (.ptr id off)) (hid : env id = .obj cs) :
    ∃ b arr e, v = .pointer (some ⟨b, off, none⟩) ∧ ro b = .obj id true ∧ w.heap[b]? = some (.cells arr e (0, 0)) ∧ Reps ro w arr.toList cs := by
  obtain ⟨b, k, rfl, hb, hr⟩ := rep_ptr hv
  have hs := h.sat id
  rw [hid] at hs
  obtain ⟨b', arr, e, h1, h2, h3⟩ := hs
  obtain rfl : b = b' := h.uniq b b' id k true hr h1
  exact ⟨b, arr, e, rfl, h1, h2, h3⟩
theorem y_load_ptr {T : TypeId} {x : Operand} {id off : Nat} {cs : List D} {sh : Bool × Nat} {r : D} (hop : o.op = .load T x) (hx : vd env x = some (.ptr id off)) (hb : env id = .obj cs) (hbig : BIG ≤ id) (hsh : tshape P T = some sh) (hp : partD sh cs off = some r) {d : Nat} (hdst : o.dst = some d) (hd : d < N) : Yield P N o env (.c (.d r)) := by
  refine yield_of hdst hd fun env' he base w0 ro0 ro blk a w hsim => ?_
  have h1 := hsim.getD (x := x) (by rw [he.getD (by simp [hop, Op.operands])]; exact hx)
  obtain ⟨b, arr, e, hv, h2, h3, h4⟩ := hsim.thing h1 (by rw [he.2.2 id hbig]; exact hb)
  obtain ⟨v, h5, h6⟩ := run_load_part (P := P) (b := b) (o := 0) hsh h4 (fun j u hu => by rw [Nat.zero_add, cell_of_row w b _ arr e (0, 0) h3]; simpa using hu) hp
  refine ⟨v, w, ro, ?_, Grow.refl hsim.new, h6⟩
  rw [Nat.zero_add] at h5
  simp only [execOp, hop, Instr.loadAt, hv, Instr.sureAddr, Sem.run_bind, Sem.run_pure, Result.andThen_ok, h5]
theorem y_field_ptr {T : TypeId} {x : Operand} {f id off k : Nat} (hop : o.op = .fieldAddr T x f) (hx : vd env x = some (.ptr id off)) (hf : fieldOff P T f = some k) {d : Nat} (hdst : o.dst = some d) (hd : d < N) : Yield P N o env (.c (.d (.ptr id (off + k)))) := by
  refine yield_of hdst hd fun env' he base w0 ro0 ro blk a w hsim => ?_
  have h1 := hsim.getD (x := x) (by rw [he.getD (by simp [hop, Op.operands])]; exact hx)
  obtain ⟨b, m, hv, hb, hr⟩ := rep_ptr h1
  refine ⟨.pointer (some ⟨b, off + k, none⟩), w, ro, ?_, Grow.refl hsim.new, Rep.ptr hb hr⟩
  simp only [execOp, hop, hv, Sem.run_bind, Sem.run_pure, Result.andThen_ok, run_fieldAt hf]
theorem SatS.writeO {g id t : Nat} {v : Value} {s : S} (h : SatS P base ro blk w t v s) (hc : Evo ro ro w w') (hb : ∀ k, k ≠ g → w'.heap[k]? = w.heap[k]?) (hg : ro g = .obj id true) (ht : t ≠ id) : SatS P base ro blk w' t v s := by
  have key : ∀ (u : Value) (c : C), SatC P base ro w u c → SatC P base ro w' u c := by
    intro u c h
    cases c with
    | d x => exact Rep.evolve hc h
    | nil => exact h
    | own τ e xs =>
      obtain ⟨sz, us, h1, h2, h3, h4, h5, h6⟩ := h
      exact ⟨sz, us, h1, h2, own_kept h3 (fun k hk => hb k (by rintro rfl; have := h6 _ hk; rw [hg] at this; cases this)), h4, h5.evolve hc, h6⟩
  cases s with
  | junk => trivial
  | c x => exact key v x h
  | box cs =>
    obtain ⟨h0, h2, h3, arr, e, h4, h5⟩ := h
    exact ⟨h0, h2, h3, arr, e, (hb _ (by intro e; rw [e, hg] at h3; cases h3)).trans h4, h5.evolve hc⟩
  | ref t' off => exact h
  | at_ cs off =>
    obtain ⟨b, o, us, h1, h2, h3⟩ := h
    exact ⟨b, o, us, h1, h2.evolve hc, fun j u hu => hc.cell _ _ _ (h3 j u hu).2 (h3 j u hu).1⟩
  | tup cs =>
    obtain ⟨arr, h1, h2, h3⟩ := h
    exact ⟨arr, h1, h2, fun i u c hu hci => key u c (h3 i u c hu hci)⟩
  | obj cs =>
    obtain ⟨b, arr, e, h1, h2, h3⟩ := h
    exact ⟨b, arr, e, h1, (hb b (by rintro rfl; rw [hg] at h1; injection h1 with h1; exact ht h1.symm)).trans h2, h3.evolve hc⟩
  | mapo es =>
    obtain ⟨b, ents, h1, h2⟩ := h
    exact ⟨b, ents, h1, h2.evolve hc ((hb b (by rintro rfl; rw [hg] at h1; injection h1 with h1; exact ht h1.symm)))⟩
  | iter id n seen =>
    obtain ⟨b, h1, h2⟩ := h
    exact ⟨b, h1, h2.evolve hc (hb _ (by intro e; have := h2.2.1; rw [e, hg] at this; cases this)) rfl⟩
  | gbox sz xs => exact GAt.keep h hc fun _ hr => ⟨hb _ (by intro e; rw [e, hg] at hr; cases hr), hr⟩
  | sref τ sz n => exact ⟨h.1, SlAt.keep h.2 fun _ hr => ⟨hb _ (by intro e; rw [e, hg] at hr; cases hr), hr⟩⟩
  | gref τ sz n =>
    obtain ⟨h1, h3, h4, arr, e, x, h5⟩ := h
    exact ⟨h1, h3, h4, arr, e, x, (hb _ (by intro e; rw [e, hg] at h3; cases h3)).trans h5⟩
  | uagg cs =>
    obtain ⟨arr, h1, h5⟩ := h
    exact ⟨arr, h1, h5.keep hc fun id sz n u _ hs => hs.keep fun _ hr => ⟨hb _ (by intro e; rw [e, hg] at hr; cases hr), hr⟩⟩
  | ubox cs =>
    obtain ⟨h0, h2, h3, arr, e, h4, h5⟩ := h
    exact ⟨h0, h2, h3, arr, e, (hb _ (by intro e; rw [e, hg] at h3; cases h3)).trans h4, h5.keep hc fun id sz n u _ hs => hs.keep fun _ hr => ⟨hb _ (by intro e; rw [e, hg] at hr; cases hr), hr⟩⟩
  | pack cs rows =>
    refine PackAt.keep h hc fun k _ hr => ⟨hb k ?_, rfl⟩
    rintro rfl
    rcases hr with hr | hr
    · rw [hg] at hr; injection hr with hr; exact ht hr.symm
    · rw [hg] at hr; cases hr
  | uobj cs =>
    obtain ⟨b, arr, e, h1, h2, h3⟩ := h
    exact ⟨b, arr, e, h1, (hb b (by rintro rfl; rw [hg] at h1; injection h1 with h1; exact ht h1.symm)).trans h2, h3.keep hc fun id sz n u _ hs => hs.keep fun _ hr => ⟨hb _ (by intro e; rw [e, hg] at hr; cases hr), hr⟩⟩
  | free => exact h
theorem s_store_ptr {T : TypeId} {x y : Operand} {id off : Nat} {cs : List D} {r : D} {sh : Bool × Nat} (hop : o.op = .store T x y) (hx : vd env x = some (.ptr id off)) (hb : env id = .obj cs) (hy : vd env y = some r) (hsh : tshape P T = some sh) (hn : r.cells.length = sh.2) (hoff : off + r.cells.length ≤ cs.length) (hdst : o.dst = none) :
    Step P N o env (upd env (some id) (.obj (patch cs off r.cells))) := by
  intro base w0 ro0 a w ⟨ro, blk, hs⟩ K Q hK
  obtain ⟨b, arr, e, h1, h22, h23, h24⟩ := hs.thing (hs.getD hx) hb
  have hv := (hs.getD hy).cells
  obtain ⟨ag, n⟩ := sh
  obtain ⟨i, dd, k1, k2, k3, k4⟩ := tshape_parts hsh
  have hvs : (a.eval y).cells.size = i.size := by have := hv.1; simp at this; omega
  have harr : arr.size = cs.length := by simpa using h24.1
  have hlen : (a.eval y).cells.toList.length = r.cells.length := hv.1
  have hst := run_storeCells_at P b off e (a.eval y).cells.toList 0 arr w h23 (by rw [hlen]; omega) hv.2.1
  simp only [Nat.add_zero] at hst
  have hrun : (execOp a.eval o).run P w = .ok .skip (w.setRow b (arr.toList.take off ++ (a.eval y).cells.toList ++ arr.toList.drop (off + (a.eval y).cells.toList.length)).toArray) := by
    simp only [execOp, hop, Instr.storeAt, h1, Instr.sureAddr, storeVar, sizeOf, typeInfo, Sem.run_bind, Sem.run_pure, Result.andThen_ok]
    simp [k1, hvs, hst]
  unfold Oper.wp
  rw [hrun, Oper.upon_skip, hdst]
  refine hK _ _ ⟨ro, blk, ?_⟩
  have hblk : ∀ k, k ≠ b → (w.setRow b (arr.toList.take off ++ (a.eval y).cells.toList ++ arr.toList.drop (off + (a.eval y).cells.toList.length)).toArray).heap[k]? = w.heap[k]? := fun k hk => setRow_other w _ k _ hk
  have hc : Evo ro ro w (w.setRow b (arr.toList.take off ++ (a.eval y).cells.toList ++ arr.toList.drop (off + (a.eval y).cells.toList.length)).toArray) := by
    refine ⟨fun b' off' u hok hcu => ?_, fun b' id' k hb hr => ⟨by simpa using hb, k, hr⟩⟩
    have hne : b' ≠ b := by intro e; subst e; unfold okAt at hok; rw [h22] at hok; exact hok
    exact ⟨by rw [World.cell?_of_block (w := w) (a := ⟨b', off', none⟩) (hblk b' hne)]; exact hcu, hok⟩
  refine ⟨hs.below.trans ⟨rfl, rfl, rfl, by simp, fun k hk hnw _ => hblk k (fun e => ?_)⟩, by simpa using hs.room, hs.nodef, hs.size, hs.old, fun b hb => hs.new b (by simpa using hb), hs.uniq, hs.given, fun s ht => by
    by_cases es : s = id
    · subst es; simp [upd] at ht
    · simp only [upd, if_neg es] at ht; exact hs.left s ht, fun s => ?_⟩
  · subst e
    exact hnw id (hs.old.obj hk h22)
  show SatS P base ro blk _ s (a.tmps.getD s undef) _
  by_cases es : s = id
  · subst es
    simp only [upd, if_true]
    refine ⟨b, _, e, h22, setRow_heap w _ arr _ e _ h23, ?_⟩
    rw [List.toList_toArray]
    exact (h24.evolve hc).patch (hv.evolve hc) off
  · simp only [upd, if_neg es]
    exact (hs.sat s).writeO hc hblk h22 es
end
end Go.Vm
end
section
namespace Go.Vm
open Go.RowKit
open Go.ChangeMaps (setBlock)
structure KeyOk (P : Program) (KT : TypeId) (dom : D → Prop) : Prop where
  kind : ∃ fs, P.underlying KT = some (.struct fs)
  check : ∀ (ro : Roles) (w : World) (v : Value) (d : D) (b : Bool), dom d → Rep ro w v d → (Instr.checkKey b 10000 KT v).run P w = .ok () w
  same : ∀ (ro : Roles) (w : World) (v u : Value) (d e : D), dom d → dom e → Rep ro w v d → Rep ro w u e → ∃ b, (Op.equal KT v u).run P w = .ok b w ∧ (b = true ↔ d = e)
  bits : ∀ (ro : Roles) (w : World) (v u : Value) (d : D), dom d → Rep ro w v d → Rep ro w u d → Instr.sameBits 10000 u v = true
section
variable {P : Program} {N base : Nat} {w0 w w' : World} {ro0 : Start} {ro ro' : Roles} {blk blk' : Nat → Nat} {env env' : Env} {a : Act} {o : Oper} {ops : Array Oper} {Q : Exit → Env → Prop}
theorem block_lt' {k : Nat} {ob : Obj} (h : w.heap[k]? = some ob) : k < w.heap.size := (Array.getElem?_eq_some_iff.1 h).1
theorem setBlock_at {b : Nat} {ob ob' : Obj} (h : w.heap[b]? = some ob') : (setBlock w b ob).heap[b]? = some ob := by
  have := block_lt' h
  simp [setBlock, this]
theorem setBlock_other {b k : Nat} {ob : Obj} (h : k ≠ b) : (setBlock w b ob).heap[k]? = w.heap[k]? := by
  simp only [setBlock, Array.getElem?_setIfInBounds]
  rw [if_neg (fun e => h e.symm)]
theorem vl_next {it id n : Nat} {seen : List Nat} {es : List (D × D)} {ty : TypeId} {rest : List Oper} {K : Env → Prop} (hop : o.op = .next (.tmp it) false) (hg : guardOk ops o env = some true) (hit : env it = .iter id n seen) (hm : env id = .mapo es) (hn : es.length = n) {d : Nat} (hdst : o.dst = some d) (hd : d < N) (hdi : d ≠ it)
    (hdone : (∀ i, i < n → i ∈ seen) → VL P N ops rest (upd env (some d) (.tup [.d (.sc (.bool false))])) K)
    (hgo : ∀ i p, es[i]? = some p → i ∉ seen → VL P N ops rest (upd (upd env (some it) (.iter id n (seen ++ [i]))) (some d) (.tup [.d (.sc (.bool true)), .d p.1, .d p.2])) K) : VL P N ops (o :: rest) env K := by
  intro base w0 ro0 a w hsim Q hQ
  refine wpList_step fun K' hK' => ?_
  rw [if_pos (guard_true hg hsim)]
  obtain ⟨ro, blk, hs⟩ := hsim
  have h1 := hs.sat it
  rw [hit] at h1
  obtain ⟨b, hv, hbase, hrole, sn, bm, k, h2, h3, h4, h5⟩ := h1
  have h6 := hs.sat id
  rw [hm] at h6
  obtain ⟨b', ents, h7, h8⟩ := h6
  obtain rfl : bm = b' := hs.uniq bm b' id k true h5 h7
  have hmem : ∀ e ∈ ents.toList, ∃ i p, ents.toList[i]? = some e ∧ e.born = i ∧ es[i]? = some p ∧ Rep ro w e.key p.1 ∧ Rep ro w e.val p.2 := by
    intro e he
    obtain ⟨i, hi, rfl⟩ := List.mem_iff_getElem.1 he
    have hlt : i < es.length := by have := h8.len; simp at hi; omega
    exact ⟨i, es[i], by simp [hi], h8.born i _ (by simp [hi]), by simp [hlt], h8.rep i _ es[i] (by simp [hi]) (by simp [hlt])⟩
  unfold Oper.wp
  rcases run_next_at (P := P) w o.type b bm n n sn ents es.length h2 h8.heap (fun e he => by
      obtain ⟨i, p, h9, h10, h11, _⟩ := hmem e he
      rw [h10]; have := (List.getElem?_eq_some_iff.1 h11).1; omega) (Nat.le_refl _) with ⟨h9, hrun⟩ | ⟨e, he, w1, hw1, hrun⟩
  · have hrun' : (execOp a.eval o).run P w = .ok (.value (.tuple #[.bool false])) w := by
      simp only [execOp, hop, Act.eval, hv, Sem.run_bind, Sem.run_pure, Result.andThen_ok, hrun]
    rw [hrun', Oper.upon_value, hdst]
    refine hK' _ _ (hdone ?_ base w0 ro0 _ _ ⟨ro, blk, hs.put (Grow.refl hs.new) hd ⟨_, rfl, rfl, fun i u c hu hc => ?_⟩⟩ Q hQ)
    · intro i hi
      have hlt : i < ents.size := by rw [h8.len]; omega
      by_cases hin : i ∈ seen
      · exact hin
      · exfalso
        have hborn := h8.born i ents[i] (by simp [hlt])
        have : ents[i] ∈ (leftOf ents sn) := by
          unfold leftOf
          rw [Array.mem_filter]
          refine ⟨Array.getElem_mem hlt, ?_⟩
          rw [hborn]
          rw [← h3] at hin
          simpa using hin
        have h10 := Array.eq_empty_of_size_eq_zero h9
        rw [h10] at this
        simp at this
    · match i with
      | 0 => simp at hu hc; subst hu hc; exact Rep.sc rfl
      | i + 1 => simp at hu
  · have hrun' : (execOp a.eval o).run P w = .ok (.value (.tuple #[.bool true, e.key, e.val])) (setBlock w1 b (.mapIter (some bm) n (sn.push e.born) es.length)) := by
      simp only [execOp, hop, Act.eval, hv, Sem.run_bind, Sem.run_pure, Result.andThen_ok, hrun]
    rw [hrun', Oper.upon_value, hdst]
    have hheap : w1.heap = w.heap := by rcases hw1 with rfl | rfl <;> rfl
    have hos : w1.os = w.os := by rcases hw1 with rfl | rfl <;> rfl
    have htp : w1.tape = w.tape := by rcases hw1 with rfl | rfl <;> rfl
    have hou : w1.output = w.output := by rcases hw1 with rfl | rfl <;> rfl
    have hmem2 : e ∈ ents.toList ∧ e.born ∉ seen := by
      unfold leftOf at he
      simp only [Array.toList_filter, List.mem_filter] at he
      refine ⟨he.1, ?_⟩
      rw [← h3]
      simpa using he.2
    obtain ⟨i, p, h9, h10, h11, h12, h13⟩ := hmem e hmem2.1
    have hblk : ∀ k, k ≠ b → (setBlock w1 b (.mapIter (some bm) n (sn.push e.born) es.length)).heap[k]? = w.heap[k]? := fun k hk => by rw [setBlock_other hk, hheap]
    have hc : Evo ro ro w (setBlock w1 b (.mapIter (some bm) n (sn.push e.born) es.length)) := by
      refine ⟨fun b' off' u hok hcu => ?_, fun b' id' k hb hr => ⟨by simpa [setBlock, hheap] using hb, k, hr⟩⟩
      have hne : b' ≠ b := by intro e; subst e; unfold okAt at hok; rw [hrole] at hok; exact hok
      exact ⟨by rw [World.cell?_of_block (w := w) (a := ⟨b', off', none⟩) (hblk b' hne)]; exact hcu, hok⟩
    have hsim2 : SimM P N base w0 ro0 ro blk (upd env (some it) (.iter id n (seen ++ [i]))) a (setBlock w1 b (.mapIter (some bm) n (sn.push e.born) es.length)) := by
      refine ⟨hs.below.trans ⟨hos, htp, hou, by simp [setBlock, hheap], fun k hk hnw _ => hblk k (by omega)⟩, by simpa [setBlock, hheap] using hs.room, hs.nodef, hs.size, hs.old, fun b hb => hs.new b (by simpa [setBlock, hheap] using hb), hs.uniq, hs.given, fun s ht => by
        by_cases es : s = it
        · subst es; simp [upd] at ht
        · simp only [upd, if_neg es] at ht; exact hs.left s ht, fun s => ?_⟩
      by_cases e1 : s = it
      · subst e1
        simp only [upd, if_true]
        refine ⟨b, hv, hbase, hrole, sn.push e.born, bm, k, by rw [setBlock_at (w := w1) (by rw [hheap]; exact h2), hn], by rw [Array.toList_push, h3, h10], by simpa [setBlock, hheap] using h4, h5⟩
      · simp only [upd, if_neg e1]
        refine (hs.sat s).write (g := b) hc hblk (fun _ _ => rfl) (fun cs' e2 e3 => ?_) (fun _ _ _ _ e2 => by rw [hrole] at e2; injection e2 with e2; exact e1 e2.symm) (fun τ n e2 => by rw [hrole] at e2; cases e2) (fun id k => ⟨(fun e2 => by rw [hrole] at e2; cases e2), (fun e2 => by rw [hrole] at e2; cases e2)⟩) (fun id k e2 => by rw [hrole] at e2; cases e2) (fun _ _ _ => ⟨(fun e2 => by rw [hrole] at e2; first | (cases e2; done) | (injection e2 with e2; exact e1 e2.symm)), (fun e2 => by rw [hrole] at e2; first | (cases e2; done) | (injection e2 with e2; exact e1 e2.symm))⟩) (fun τ _ _ => ⟨rfl, fun arr e' x hh => by rw [h2] at hh; cases hh⟩)
        have := hs.sat s
        rw [e2] at this
        have h5 := this.2.2.1
        rw [e3, hrole] at h5
        injection h5 with h5
        exact e1 h5.symm
    refine hK' _ _ (hgo i p h11 (by rw [← h10]; exact hmem2.2) base w0 ro0 _ _ ⟨ro, blk, hsim2.put (Grow.refl hsim2.new) hd ⟨_, rfl, rfl, fun j u c hu hcc => ?_⟩⟩ Q hQ)
    match j with
    | 0 => simp at hu hcc; subst hu hcc; exact Rep.sc rfl
    | 1 => simp at hu hcc; subst hu hcc; exact h12.evolve hc
    | 2 => simp at hu hcc; subst hu hcc; exact h13.evolve hc
    | j + 3 => simp at hu
end
end Go.Vm
end
section
namespace Go.Vm
open Go.RowKit
section
variable {P : Program} {N base : Nat} {w0 w w' : World} {ro0 : Start} {ro ro' : Roles} {blk blk' : Nat → Nat} {env env' : Env} {a : Act} {o : Oper} {ops : Array Oper} {md : Region.Mode} {bar : List Nat} {fb : List Nat}
def Closed (md : Region.Mode) (ops : Array Oper) (listed : Array Bool) : Prop := ∀ k o, ops[k]? = some o → listed.getD k true = true → ∀ e ∈ o.after, Region.binds md e = true → listed.getD e.on false = true
def barOk (md : Region.Mode) (ops : Array Oper) (bar : List Nat) : Bool := bar.all fun m => (List.range ops.size).all fun j =>
  j == m || (if j < m then (List.range (m + 1)).any fun k => decide (j < k) && (match ops[k]? with
    | some o => o.after.any fun e => Region.binds md e && e.on == j
    | none => false)
  else match ops[j]? with
    | some o => o.after.any fun e => Region.binds md e && decide (m ≤ e.on) && decide (e.on < j)
    | none => false)
theorem getD_up {l : Array Bool} {k : Nat} (h : l.getD k false = true) : l.getD k true = true := by
  rcases Nat.lt_or_ge k l.size with h' | h'
  · simp [h'] at h ⊢; exact h
  · simp [Array.getElem?_eq_none h', Array.getD_eq_getD_getElem?] at h
theorem getD_no {l : Array Bool} {k : Nat} (h : l.getD k false = true) (h' : l.getD k true = false) : False := by
  rw [getD_up h] at h'; cases h'
theorem barOk_before (hB : barOk md ops bar = true) {m j : Nat} (hm : m ∈ bar) (hj : j < m) (hs : m < ops.size) : ∃ k o, j < k ∧ k ≤ m ∧ ops[k]? = some o ∧ ∃ e ∈ o.after, Region.binds md e = true ∧ e.on = j := by
  have h := List.all_eq_true.1 (List.all_eq_true.1 hB m hm) j (List.mem_range.2 (by omega))
  simp only [Bool.or_eq_true, beq_iff_eq, if_pos hj] at h
  rcases h with h | h
  · omega
  · obtain ⟨k, hk, h2⟩ := List.any_eq_true.1 h
    simp only [Bool.and_eq_true, decide_eq_true_eq] at h2
    obtain ⟨h3, h4⟩ := h2
    have := List.mem_range.1 hk
    split at h4
    · rename_i o ho
      rw [Array.any_eq_true] at h4
      obtain ⟨i, hi, h5⟩ := h4
      simp only [Bool.and_eq_true, beq_iff_eq] at h5
      exact ⟨k, o, h3, by omega, ho, _, Array.getElem_mem hi, h5.1, h5.2⟩
    · cases h4
theorem barOk_behind (hB : barOk md ops bar = true) {m j : Nat} (hm : m ∈ bar) (hj : m < j) (hs : j < ops.size) : ∃ o, ops[j]? = some o ∧ ∃ e ∈ o.after, Region.binds md e = true ∧ m ≤ e.on ∧ e.on < j := by
  have h := List.all_eq_true.1 (List.all_eq_true.1 hB m hm) j (List.mem_range.2 hs)
  simp only [Bool.or_eq_true, beq_iff_eq, if_neg (show ¬ j < m by omega)] at h
  rcases h with h | h
  · omega
  · split at h
    · rename_i o ho
      rw [Array.any_eq_true] at h
      obtain ⟨i, hi, h5⟩ := h
      simp only [Bool.and_eq_true, decide_eq_true_eq] at h5
      exact ⟨o, ho, _, Array.getElem_mem hi, h5.1.1, h5.1.2, h5.2⟩
    · cases h
theorem lt_ops {k : Nat} (h : ops[k]? = some o) : k < ops.size := (Array.getElem?_eq_some_iff.1 h).1
theorem listed_before (hB : barOk md ops bar = true) {listed : Array Bool} (hc : Closed md ops listed) {m : Nat} (hm : m ∈ bar) (hr : m ∈ Region.ready md ops listed) : ∀ n j, j < m → m - j ≤ n → listed.getD j false = true
  | 0, j, h1, h2 => by omega
  | n + 1, j, h1, h2 => by
    obtain ⟨_, om, hom, hall⟩ := mem_ready.1 hr
    obtain ⟨k, o, h3, h4, h5, e, he, hb, hon⟩ := barOk_before hB hm h1 (lt_ops hom)
    by_cases hk : k = m
    · subst hk
      rw [hom] at h5; injection h5 with h5; subst h5
      rw [← hon]; exact hall e he hb
    · have := listed_before hB hc hm hr n k (by omega) (by omega)
      rw [← hon]; exact hc k o h5 (getD_up this) e he hb
theorem listed_behind (hB : barOk md ops bar = true) {listed : Array Bool} (hc : Closed md ops listed) {m : Nat} (hm : m ∈ bar) : ∀ n j, j ≤ n → m < j → (j ∈ Region.ready md ops listed ∨ (j < ops.size ∧ listed.getD j true = true)) → listed.getD m false = true
  | 0, j, h1, h2, _ => by omega
  | n + 1, j, h1, h2, h => by
    have hs : j < ops.size := by
      rcases h with h | h
      · obtain ⟨_, o, ho, _⟩ := mem_ready.1 h; exact lt_ops ho
      · exact h.1
    obtain ⟨o, ho, e, he, hb, h3, h4⟩ := barOk_behind hB hm h2 hs
    have hl : listed.getD e.on false = true := by
      rcases h with h | h
      · obtain ⟨_, o', ho', hall⟩ := mem_ready.1 h
        rw [ho] at ho'; injection ho' with ho'; subst ho'
        exact hall e he hb
      · exact hc j o ho h.2 e he hb
    by_cases hem : e.on = m
    · rw [← hem]; exact hl
    · exact listed_behind hB hc hm n e.on (by omega) (by omega) (.inr ⟨by omega, getD_up hl⟩)
theorem ready_alone (hB : barOk md ops bar = true) {listed : Array Bool} (hc : Closed md ops listed) {i j : Nat} (hi : i ∈ Region.ready md ops listed) (hj : j ∈ Region.ready md ops listed) (hm : i ∈ bar) : i = j := by
  rcases Nat.lt_trichotomy i j with h | h | h
  · exact (getD_no (listed_behind hB hc hm j j (Nat.le_refl _) h (.inl hj)) (mem_ready.1 hi).1).elim
  · exact h
  · exact (getD_no (listed_before hB hc hm hi _ j h (Nat.le_refl _)) (mem_ready.1 hj).1).elim
theorem Closed.next {listed : Array Bool} (hc : Closed md ops listed) {i : Nat} (hi : i ∈ Region.ready md ops listed) : Closed md ops (listed.setIfInBounds i true) := by
  have hup : ∀ k, listed.getD k false = true → (listed.setIfInBounds i true).getD k false = true := by
    intro k h
    simp only [Array.getD_eq_getD_getElem?, Array.getElem?_setIfInBounds] at h ⊢
    by_cases e : i = k
    · subst e
      rcases Nat.lt_or_ge i listed.size with h' | h'
      · simp [h']
      · simp [Array.getElem?_eq_none h'] at h
    · rw [if_neg e]; exact h
  intro k o ho hl e he hb
  by_cases hk : k = i
  · subst hk
    obtain ⟨_, o', ho', hall⟩ := mem_ready.1 hi
    rw [ho] at ho'; injection ho' with ho'; subst ho'
    exact hup _ (hall e he hb)
  · exact hup _ (hc k o ho (by rwa [getD_set_ne true (fun e => hk e.symm)] at hl) e he hb)
structure BStep (P : Program) (N : Nat) (ops : Array Oper) (o : Oper) (env env' : Env) : Prop where
  run : (guardOk ops o env = some true ∧ Step P N o env env') ∨ (guardOk ops o env = some false ∧ env' = upd env o.dst (.tup []))
  refs : ∀ t d off, env' t = .ref d off → env t = .ref d off
  nbs : ∀ t, nb (env t) = true → nb (env' t) = true
def vOpB (P : Program) (N : Nat) (fb : List Nat) (ops : Array Oper) (bar : List Nat) (i : Nat) (K : Env → Prop) (env : Env) : Prop :=
  match ops[i]? with
  | none => K env
  | some o => if i ∈ bar then ∃ env', BStep P N ops o env env' ∧ K env' else ∃ eff, DG P N fb ops o env eff ∧ K (eff.app env)
theorem vOpB_mono {i : Nat} {K K' : Env → Prop} (h : ∀ env, K env → K' env) (hh : vOpB P N fb ops bar i K env) : vOpB P N fb ops bar i K' env := by
  unfold vOpB at *
  split
  · exact h _ (by simpa [*] using hh)
  · rename_i o ho
    simp only [ho] at hh
    split
    · rename_i hb
      rw [if_pos hb] at hh
      obtain ⟨s, h1, h2⟩ := hh
      exact ⟨s, h1, h _ h2⟩
    · rename_i hb
      rw [if_neg hb] at hh
      obtain ⟨s, h1, h2⟩ := hh
      exact ⟨s, h1, h _ h2⟩
def wpAnyB (P : Program) (N : Nat) (fb : List Nat) (md : Region.Mode) (ops : Array Oper) (bar : List Nat) (K : Env → Prop) : Nat → Array Bool → Env → Prop
  | 0, listed, env => Region.ready md ops listed = [] ∧ K env
  | fuel + 1, listed, env => (Region.ready md ops listed = [] → K env) ∧ ∀ i ∈ Region.ready md ops listed, vOpB P N fb ops bar i (wpAnyB P N fb md ops bar K fuel (listed.setIfInBounds i true)) env
theorem NR.past {listed : Array Bool} {i : Nat} (h : NR ops listed env) (hb : BStep P N ops o env env') : NR ops (listed.setIfInBounds i true) env' := by
  intro k o' d hk hn hl hdst
  have hl' : listed.getD k true = false := by
    by_cases hki : i = k
    · subst hki
      rcases Nat.lt_or_ge i listed.size with h' | h'
      · simp [h'] at hl
      · simp [Array.getElem?_eq_none h', Array.getD_eq_getD_getElem?] at hl
    · rwa [getD_set_ne true hki] at hl
  obtain ⟨h1, h2⟩ := h k o' d hk hn hl' hdst
  exact ⟨fun t off e => h1 t off (hb.refs t d off e), hb.nbs d h2⟩
theorem wpAny_of_B {K : Env → Prop} {Q : Exit → Act → World → Prop} (hu : uniqNew ops = true) (hQ : ∀ env a w, K env → Sim P N base w0 ro0 env a w → Q .normal a w) : ∀ (fuel : Nat) (listed : Array Bool) (env : Env) (a : Act) (w : World), NR ops listed env → Sim P N base w0 ro0 env a w → wpAnyB P N fb md ops bar K fuel listed env → wpAny P md ops Q fuel listed a w
  | 0, _, _, _, _, _, hs, h => ⟨h.1, hQ _ _ _ h.2 hs⟩
  | fuel + 1, listed, env, a, w, hnr, hs, h => by
    refine ⟨fun h0 => hQ _ _ _ (h.1 h0) hs, fun i hi => ?_⟩
    have hv := h.2 i hi
    unfold vOpB at hv
    unfold wpOp
    have hun := (mem_ready.1 hi).1
    cases ho : ops[i]? with
    | none =>
      obtain ⟨_, o, ho', _⟩ := mem_ready.1 hi
      rw [ho] at ho'; cases ho'
    | some o =>
      rw [ho] at hv
      simp only at hv ⊢
      by_cases hb : i ∈ bar
      · rw [if_pos hb] at hv
        obtain ⟨env', hst, hk⟩ := hv
        have hnx := hnr.past (i := i) hst
        rcases hst.run with ⟨g, y⟩ | ⟨g, rfl⟩
        · rw [if_pos (guard_true g hs)]
          refine .inl (y base w0 ro0 a w hs _ Q fun a' w' hs' => wpAny_of_B hu hQ fuel _ _ _ _ hnx hs' hk)
        · rw [if_neg (by rw [guard_false g hs]; decide)]
          obtain ⟨ro, blk, hs⟩ := hs
          exact wpAny_of_B hu hQ fuel _ _ _ _ hnx ⟨ro, blk, hs.undef o.dst⟩ hk
      · rw [if_neg hb] at hv
        obtain ⟨eff, hd, hk⟩ := hv
        have hnx := hnr.next hu ho hd
        rcases hd.run with ⟨g, y⟩ | ⟨g, rfl⟩
        · rw [if_pos (guard_true g hs)]
          refine .inl (y env ((Agree.refl _ _).toC _) (fun d hn hdst => (hnr i o d ho hn (by simpa using hun) hdst).1) base w0 ro0 a w hs _ Q fun a' w' hs' => wpAny_of_B hu hQ fuel _ _ _ _ hnx hs' hk)
        · rw [if_neg (by rw [guard_false g hs]; decide)]
          obtain ⟨ro, blk, hs⟩ := hs
          exact wpAny_of_B hu hQ fuel _ _ _ _ hnx ⟨ro, blk, hs.undef o.dst⟩ hk
theorem vOpB_put {j : Nat} {oi oj : Oper} {eff : Eff} (hj : ops[j]? = some oj) (hjb : j ∉ bar) (hap : apartN fb ops oi oj = true) {K : Env → Prop} (hy : DG P N fb ops oi env eff) (h : vOpB P N fb ops bar j K (eff.app env)) :
    vOpB P N fb ops bar j (fun env' => DG P N fb ops oi env' eff ∧ K (eff.app env')) env := by
  have h12 := hap
  simp only [apartN, apartX, Bool.and_eq_true] at h12
  unfold vOpB at *
  simp only [hj, if_neg hjb] at *
  obtain ⟨f, hf, hk⟩ := h
  have hf' : DG P N fb ops oj env f := hf.carry (same_of_away hy h12.1.1.1 h12.1.2).symm
  exact ⟨f, hf', hy.carry (same_of_away hf' h12.1.1.2 h12.2), by rw [← app_comm hy hf' hap]; exact hk⟩
theorem wpAnyB_first {K : Env → Prop} (hB : barOk md ops bar = true) {i : Nat} {oi : Oper} {eff : Eff} (hi : ops[i]? = some oi) (hib : i ∉ bar) :
    ∀ (fuel : Nat) (listed : Array Bool) (env : Env), Closed md ops listed →
      (∀ j oj, ops[j]? = some oj → j ∉ bar → j ≠ i → listed.getD j true = false → (∀ e ∈ oj.after, Region.binds md e = true → e.on ≠ i) → apartN fb ops oi oj = true) →
      i ∈ Region.ready md ops listed → DG P N fb ops oi env eff →
      wpAnyB P N fb md ops bar K fuel (listed.setIfInBounds i true) (eff.app env) → wpAnyB P N fb md ops bar K (fuel + 1) listed env := by
  intro fuel
  induction fuel with
  | zero =>
    intro listed env hc _ hr hy H
    refine ⟨fun h => (by rw [h] at hr; cases hr), fun j hj => ?_⟩
    by_cases hji : j = i
    · subst hji; unfold vOpB; rw [hi]; simp only; rw [if_neg hib]; exact ⟨eff, hy, H⟩
    · have := ready_mono hj hji
      rw [H.1] at this
      cases this
  | succ fuel ih =>
    intro listed env hc hfree hr hy H
    refine ⟨fun h => (by rw [h] at hr; cases hr), fun j hj => ?_⟩
    by_cases hji : j = i
    · subst hji; unfold vOpB; rw [hi]; simp only; rw [if_neg hib]; exact ⟨eff, hy, H⟩
    · have hjb : j ∉ bar := fun hb => hji (ready_alone hB hc hj hr hb)
      have h1 := H.2 j (ready_mono hj hji)
      obtain ⟨hjun, oj, hoj, hall⟩ := mem_ready.1 hj
      have hnot : ∀ e ∈ oj.after, Region.binds md e = true → e.on ≠ i := fun e he hb heq => by
        have h1 := hall e he hb
        have h0 := (mem_ready.1 hr).1
        rw [heq] at h1
        exact getD_no h1 h0
      have h2 := vOpB_put hoj hjb (hfree j oj hoj hjb hji hjun hnot) hy h1
      have hfree' : ∀ k ok, ops[k]? = some ok → k ∉ bar → k ≠ i → (listed.setIfInBounds j true).getD k true = false →
          (∀ e ∈ ok.after, Region.binds md e = true → e.on ≠ i) → apartN fb ops oi ok = true := fun k ok hk hkb hki hun hno => by
        refine hfree k ok hk hkb hki ?_ hno
        by_cases hjk : j = k
        · subst hjk; exact hjun
        · rw [getD_set_ne true hjk] at hun; exact hun
      refine vOpB_mono (fun env' h3 => ih (listed.setIfInBounds j true) env' (hc.next hj) hfree' (ready_mono hr (Ne.symm hji)) h3.1 ?_) h2
      rw [Array.setIfInBounds_comm _ _ hji]
      exact h3.2
def VB (P : Program) (N : Nat) (fb : List Nat) (ops : Array Oper) (bar : List Nat) (K : Env → Prop) : Nat → List Oper → Env → Prop
  | _, [], env => K env
  | k, o :: rest, env => if k ∈ bar then ∃ env', BStep P N ops o env env' ∧ VB P N fb ops bar K (k + 1) rest env' else ∃ eff, DG P N fb ops o env eff ∧ VB P N fb ops bar K (k + 1) rest (eff.app env)
def freeB (fb : List Nat) (md : Region.Mode) (ops : Array Oper) (bar : List Nat) (listed : Array Bool) (i : Nat) : Bool := match ops[i]? with
  | none => false
  | some oi => bar.contains i || (List.range ops.size).all fun j => bar.contains j || j == i || listed.getD j true || (match ops[j]? with
    | none => true
    | some oj => oj.after.any (fun e => Region.binds md e && e.on == i) || apartN fb ops oi oj)
def lexB (fb : List Nat) (md : Region.Mode) (ops : Array Oper) (bar : List Nat) : Nat → Nat → Array Bool → Bool
  | 0, _, listed => (Region.ready md ops listed).isEmpty
  | fuel + 1, k, listed => (Region.ready md ops listed).contains k && freeB fb md ops bar listed k && lexB fb md ops bar fuel (k + 1) (listed.setIfInBounds k true)
def drawnB (fb : List Nat) (ops : Array Oper) (bar : List Nat) : Bool := uniqNew ops && barOk .any ops bar && lexB fb .any ops bar ops.size 0 (Array.replicate ops.size false)
theorem freeB_spec {listed : Array Bool} {i : Nat} {oi : Oper} (hi : ops[i]? = some oi) (hib : i ∉ bar) (h : freeB fb md ops bar listed i = true) : ∀ j oj, ops[j]? = some oj → j ∉ bar → j ≠ i → listed.getD j true = false → (∀ e ∈ oj.after, Region.binds md e = true → e.on ≠ i) → apartN fb ops oi oj = true := by
  intro j oj hj hjb hji hl hno
  unfold freeB at h
  rw [hi] at h
  have hlt : j < ops.size := (Array.getElem?_eq_some_iff.1 hj).1
  have h0 : bar.contains i = false := by simpa using hib
  have h0' : bar.contains j = false := by simpa using hjb
  simp only [h0, Bool.false_or] at h
  have := List.all_eq_true.1 h j (List.mem_range.2 hlt)
  simp only [hj, hl, h0', Bool.or_false, Bool.false_or, Bool.or_eq_true, beq_iff_eq] at this
  rcases this with h1 | h1 | h1
  · exact absurd h1 hji
  · rw [Array.any_eq_true] at h1
    obtain ⟨k, hk, h2⟩ := h1
    simp only [Bool.and_eq_true, beq_iff_eq] at h2
    exact absurd h2.2 (hno _ (Array.getElem_mem hk) h2.1)
  · exact h1
theorem wpAnyB_lex {K : Env → Prop} (hB : barOk md ops bar = true) : ∀ (l : List Oper) (k : Nat) (listed : Array Bool) (env : Env), Closed md ops listed → (∀ j, l[j]? = ops[k + j]?) → lexB fb md ops bar l.length k listed = true → VB P N fb ops bar K k l env → wpAnyB P N fb md ops bar K l.length listed env
  | [], _, _, _, _, _, hL, h => ⟨by simpa [lexB] using hL, h⟩
  | o :: l, k, listed, env, hc, hl, hL, h => by
    have h0 : ops[k]? = some o := by simpa using (hl 0).symm
    simp only [List.length_cons, lexB, Bool.and_eq_true] at hL
    obtain ⟨⟨hr, hf⟩, hL'⟩ := hL
    have hr' : k ∈ Region.ready md ops listed := by simpa using hr
    have hnext : ∀ j, l[j]? = ops[k + 1 + j]? := fun j => by have := hl (j + 1); simpa [Nat.add_assoc, Nat.add_comm 1 j] using this
    unfold VB at h
    by_cases hb : k ∈ bar
    · rw [if_pos hb] at h
      obtain ⟨env', hst, hK⟩ := h
      refine ⟨fun h => (by rw [h] at hr'; cases hr'), fun j hj => ?_⟩
      obtain rfl := ready_alone hB hc hr' hj hb
      unfold vOpB
      rw [h0]
      simp only
      rw [if_pos hb]
      exact ⟨env', hst, wpAnyB_lex hB l _ _ _ (hc.next hr') hnext hL' hK⟩
    · rw [if_neg hb] at h
      obtain ⟨eff, hy, hK⟩ := h
      exact wpAnyB_first hB h0 hb l.length listed env hc (freeB_spec h0 hb hf) hr' hy (wpAnyB_lex hB l (k + 1) _ _ (hc.next hr') hnext hL' hK)
theorem vc_drawnB {id : Nat} {l : List Oper} {Q : Exit → Env → Prop} (bar : List Nat) (hm : P.follows .mixedOrders = true) (hB : drawnB fb l.toArray bar = true) (h : VB P N fb l.toArray bar (Q .normal) 0 l (freshen l env)) : VC P N (.region id l.toArray true) env Q := by
  intro base w0 ro0 a w hs
  simp only [drawnB, Bool.and_eq_true] at hB
  obtain ⟨ro, blk, hs'⟩ := hs.weaken (freshen_weak l env)
  refine wp_region_any hm (wpAny_of_B (fb := fb) (bar := bar) (K := Q .normal) hB.1.1 (fun env' a' w' hk hs' => ⟨env', hk, hs'⟩) _ _ _ _ _ (freshen_nr l env) (?_ : Sim P N base w0 ro0 (freshen l env) a _) ?_)
  · exact ⟨ro, blk, hs'.rest ⟨(Below.refl _ _).drew, fun _ _ => rfl, hs'.new, fun b id k hb => by rw [hs'.new b hb]; simp⟩⟩
  · have hc : Closed .any l.toArray (Array.replicate l.toArray.size false) := by
      intro k o ho hl
      exfalso
      have hlt := lt_ops ho
      simp [hlt] at hl
      simp only [List.size_toArray] at hlt
      simp [hlt] at hl
    have := wpAnyB_lex (P := P) (N := N) (md := .any) (ops := l.toArray) (K := Q .normal) hB.1.2 l 0 (Array.replicate l.toArray.size false) (freshen l env) hc (by simp) (by simpa using hB.2) h
    simpa using this
end
end Go.Vm
end
section
namespace Go.Vm
open Go.RowKit
section
variable {P : Program} {N base : Nat} {w0 w w' : World} {ro0 : Start} {ro ro' : Roles} {blk blk' : Nat → Nat} {env env' : Env} {a : Act} {o : Oper} {ops : Array Oper} {Q : Exit → Env → Prop}
theorem y_nilCheck {x : Operand} {id off : Nat} (hop : o.op = .nilCheck x) (hx : vd env x = some (.ptr id off)) {d : Nat} (hdst : o.dst = some d) (hd : d < N) : Yield P N o env (.c (.d (.ptr id off))) := by
  refine yield_of hdst hd fun env' he base w0 ro0 ro blk a w hsim => ?_
  have h1 := hsim.getD (x := x) (by rw [he.getD (by simp [hop, Op.operands])]; exact hx)
  obtain ⟨b, k, hv, hb, hr⟩ := rep_ptr h1
  exact ⟨_, w, ro, by simp [execOp, hop, hv], Grow.refl hsim.new, Rep.ptr hb hr⟩
theorem equal_ptr {T e : TypeId} (hT : P.underlying T = some (.pointer e)) (ad : Addr) : (Op.equal T (.pointer (some ad)) (.pointer none)).run P w = .ok false w := by
  unfold Op.equal
  rw [show Op.maxDepth = 9999 + 1 from rfl, Op.equalIn, Sem.run_bind, run_underlying hT w]
  rfl
theorem equal_map {T k e : TypeId} (hT : P.underlying T = some (.map k e)) (b : Nat) : (Op.equal T (.map (some b)) (.map none)).run P w = .ok false w := by
  unfold Op.equal
  rw [show Op.maxDepth = 9999 + 1 from rfl, Op.equalIn, Sem.run_bind, run_underlying hT w]
  rfl
theorem y_eqptr {T t' e : TypeId} {x : Operand} {id off : Nat} {neg : Bool} (hop : o.op = .binOp (if neg then .neq else .eql) T x (.const (.pointer none)) t') (hx : vd env x = some (.ptr id off)) (hT : P.underlying T = some (.pointer e)) {d : Nat} (hdst : o.dst = some d) (hd : d < N) : Yield P N o env (.c (.d (.sc (.bool neg)))) := by
  refine yield_of hdst hd fun env' he base w0 ro0 ro blk a w hsim => ?_
  have h1 := hsim.getD (x := x) (by rw [he.getD (by cases neg <;> simp [hop, Op.operands])]; exact hx)
  obtain ⟨b, k, hv, hb, hr⟩ := rep_ptr h1
  refine ⟨.bool neg, w, ro, ?_, Grow.refl hsim.new, Rep.sc rfl⟩
  have he1 := equal_ptr (P := P) (w := w) hT ⟨b, off, none⟩
  have hg : (eqGuard (if neg then .neq else .eql) T x (.const (.pointer none)) (.pointer (some ⟨b, off, none⟩)) (.pointer none)).run P w = .ok () w := by cases neg <;> rfl
  have hbn : (binOp (if neg then .neq else .eql) T (.pointer (some ⟨b, off, none⟩)) (.pointer none)).run P w = .ok (.bool neg) w := by
    cases neg
    · show (Op.equal T _ _ >>= fun r => pure (Value.bool r)).run P w = _
      rw [Sem.run_bind, he1]; rfl
    · show (Op.equal T _ _ >>= fun r => pure (Value.bool (!r))).run P w = _
      rw [Sem.run_bind, he1]; rfl
  have hc : a.eval (.const (.pointer none)) = .pointer none := rfl
  simp only [execOp, hop, hv, hc, Sem.run_bind, hg, hbn, Result.andThen, Sem.run_pure]
theorem y_eqmap {T t' kt e : TypeId} {x : Operand} {id : Nat} {neg : Bool} (hop : o.op = .binOp (if neg then .neq else .eql) T x (.const (.map none)) t') (hx : vd env x = some (.mp id)) (hT : P.underlying T = some (.map kt e)) {d : Nat} (hdst : o.dst = some d) (hd : d < N) : Yield P N o env (.c (.d (.sc (.bool neg)))) := by
  refine yield_of hdst hd fun env' he base w0 ro0 ro blk a w hsim => ?_
  have h1 := hsim.getD (x := x) (by rw [he.getD (by cases neg <;> simp [hop, Op.operands])]; exact hx)
  obtain ⟨b, k, hv, hb, hr⟩ := rep_mp h1
  refine ⟨.bool neg, w, ro, ?_, Grow.refl hsim.new, Rep.sc rfl⟩
  have he1 := equal_map (P := P) (w := w) hT b
  have hg : (eqGuard (if neg then .neq else .eql) T x (.const (.map none)) (.map (some b)) (.map none)).run P w = .ok () w := by cases neg <;> rfl
  have hbn : (binOp (if neg then .neq else .eql) T (.map (some b)) (.map none)).run P w = .ok (.bool neg) w := by
    cases neg
    · show (Op.equal T _ _ >>= fun r => pure (Value.bool r)).run P w = _
      rw [Sem.run_bind, he1]; rfl
    · show (Op.equal T _ _ >>= fun r => pure (Value.bool (!r))).run P w = _
      rw [Sem.run_bind, he1]; rfl
  have hc : a.eval (.const (.map none)) = .map none := rfl
  simp only [execOp, hop, hv, hc, Sem.run_bind, hg, hbn, Result.andThen, Sem.run_pure]
end
end Go.Vm
end
section
namespace Go.Vm
open Go.RowKit
def dropC (id : Nat) : D → D
  | .rr i sz n => if i = id then .stale else .rr i sz n
  | c => c
def dropG (id : Nat) : S → S
  | .sref i sz n => if i = id then .junk else .sref i sz n
  | .gref i sz n => if i = id then .junk else .gref i sz n
  | .ref i off => if i = id then .junk else .ref i off
  | .ubox cs => .ubox (cs.map (dropC id))
  | .uagg cs => .uagg (cs.map (dropC id))
  | .uobj cs => .uobj (cs.map (dropC id))
  | s => s
def setG (env : Env) (id d : Nat) (s : S) (g : S) : Env := fun t => if t = d then s else if t = id then g else env t
def appG (env : Env) (id d : Nat) (s : S) (g : S) : Env := fun t => if t = d then s else if t = id then g else dropG id (env t)
section
variable {P : Program} {N base : Nat} {w0 w w' : World} {ro0 : Start} {ro ro' : Roles} {blk blk' : Nat → Nat} {env env' : Env} {a : Act} {o : Oper}
theorem RepsG.drop {rl : Nat → Role} {us : List Value} {cs : List D} (id : Nat) (h : RepsG rl ro blk w us cs) : RepsG rl ro blk w us (cs.map (dropC id)) := by
  refine ⟨by rw [List.length_map]; exact h.1, h.2.1, fun j u c hu hc => ?_⟩
  rw [List.getElem?_map] at hc
  cases hq : cs[j]? with
  | none => rw [hq] at hc; cases hc
  | some d =>
    rw [hq] at hc
    simp only [Option.map_some, Option.some.injEq] at hc
    have := h.2.2 j u d hu hq
    subst hc
    cases d with
    | rr i sz n => simp only [dropC]; split; trivial; exact this
    | _ => exact this
theorem SatS.dropG {t : Nat} {v : Value} {s : S} (id : Nat) (h : SatS P base ro blk w t v s) : SatS P base ro blk w t v (dropG id s) := by
  cases s with
  | sref i sz n => simp only [Vm.dropG]; split; trivial; exact h
  | gref i sz n => simp only [Vm.dropG]; split; trivial; exact h
  | ref i off => simp only [Vm.dropG]; split; trivial; exact h
  | ubox cs =>
    obtain ⟨h0, h2, h3, arr, e, h4, h5⟩ := h
    exact ⟨h0, h2, h3, arr, e, h4, h5.drop id⟩
  | uagg cs =>
    obtain ⟨arr, h1, h5⟩ := h
    exact ⟨arr, h1, h5.drop id⟩
  | uobj cs =>
    obtain ⟨b, arr, e, h1, h4, h5⟩ := h
    exact ⟨b, arr, e, h1, h4, h5.drop id⟩
  | _ => exact h
theorem dropG_free {id : Nat} {s : S} (h : dropG id s = .free) : s = .free := by
  cases s with
  | sref i sz n => simp only [dropG] at h; split at h <;> cases h
  | gref i sz n => simp only [dropG] at h; split at h <;> cases h
  | ref i sz => simp only [dropG] at h; split at h <;> cases h
  | ubox cs => cases h
  | uagg cs => cases h
  | uobj cs => cases h
  | _ => exact h
theorem SimM.drop {id d : Nat} {s g : S} (h : SimM P N base w0 ro0 ro blk (setG env id d s g) a w) : SimM P N base w0 ro0 ro blk (appG env id d s g) a w := by
  refine ⟨h.below, h.room, h.nodef, h.size, h.old, h.new, h.uniq, h.given, fun t ht => h.left t ?_, fun t => ?_⟩
  · simp only [appG] at ht
    simp only [setG]
    split
    · rename_i e; rwa [if_pos e] at ht
    · rename_i e; rw [if_neg e] at ht
      split
      · rename_i e; rwa [if_pos e] at ht
      · rename_i e; rw [if_neg e] at ht; exact dropG_free ht
  · have := h.sat t
    simp only [appG, setG] at this ⊢
    split
    · rename_i e; rwa [if_pos e] at this
    · rename_i e; rw [if_neg e] at this
      split
      · rename_i e; rwa [if_pos e] at this
      · rename_i e; rw [if_neg e] at this; exact this.dropG id
end
end Go.Vm
end
section
namespace Go.Vm
open Go.RowKit
def plainD : D → Bool
  | .rr .. | .stale => false
  | _ => true
section
variable {P : Program} {N base : Nat} {w0 w w' : World} {ro0 : Start} {rl : Nat → Role} {ro ro' : Roles} {blk blk' : Nat → Nat} {env env' : Env} {a : Act} {o : Oper}
theorem RepG.rep {u : Value} {c : D} (h : RepG rl ro blk w u c) (hp : plainD c = true) : Rep ro w u c := by
  cases c with
  | rr => cases hp
  | stale => cases hp
  | _ => exact h
theorem Rep.toG {u : Value} {c : D} (h : Rep ro w u c) : RepG rl ro blk w u c := by
  cases h with
  | sc h => exact .sc h
  | agg hl h1 h => exact .agg hl h1 h
  | nil hm => exact .nil hm
  | row us a b c d e f g h => exact .row us a b c d e f g h
  | ptr a b => exact .ptr a b
  | mp a b => exact .mp a b
  | fn a b => exact .fn a b
theorem Reps.toG {us : List Value} {cs : List D} (h : Reps ro w us cs) : RepsG rl ro blk w us cs := ⟨h.1, h.2.1, fun j u c hu hc => (h.2.2 j u c hu hc).toG⟩
theorem RepsG.append {us vs : List Value} {cs ds : List D} (h : RepsG rl ro blk w us cs) (k : RepsG rl ro blk w vs ds) : RepsG rl ro blk w (us ++ vs) (cs ++ ds) := by
  refine ⟨by simp [h.1, k.1], ?_, ?_⟩
  · intro u hu
    rcases List.mem_append.1 hu with hu | hu
    · exact h.2.1 u hu
    · exact k.2.1 u hu
  · intro j u c hu hc
    by_cases hj : j < us.length
    · rw [List.getElem?_append_left hj] at hu
      rw [List.getElem?_append_left (by rw [← h.1]; exact hj)] at hc
      exact h.2.2 j u c hu hc
    · rw [List.getElem?_append_right (by omega)] at hu
      rw [List.getElem?_append_right (by rw [← h.1]; omega), ← h.1] at hc
      exact k.2.2 _ u c hu hc
theorem RepsG.dropN {us : List Value} {cs : List D} (h : RepsG rl ro blk w us cs) (n : Nat) : RepsG rl ro blk w (us.drop n) (cs.drop n) :=
  ⟨by simp [h.1], fun u hu => h.2.1 u (List.mem_of_mem_drop hu), fun j u c hu hc => h.2.2 (n + j) u c (by rw [← List.getElem?_drop]; exact hu) (by rw [← List.getElem?_drop]; exact hc)⟩
theorem RepsG.takeN {us : List Value} {cs : List D} (h : RepsG rl ro blk w us cs) (n : Nat) : RepsG rl ro blk w (us.take n) (cs.take n) := by
  refine ⟨by simp [h.1], fun u hu => h.2.1 u (List.mem_of_mem_take hu), fun j u c hu hc => ?_⟩
  rw [List.getElem?_take] at hu hc
  split at hu
  · rw [if_pos (by assumption)] at hc; exact h.2.2 j u c hu hc
  · cases hu
theorem RepsG.patch {us vs : List Value} {cs ds : List D} (h : RepsG rl ro blk w us cs) (k : RepsG rl ro blk w vs ds) (off : Nat) : RepsG rl ro blk w (us.take off ++ vs ++ us.drop (off + vs.length)) (patch cs off ds) := by
  unfold Vm.patch
  rw [k.1]
  exact ((h.takeN off).append k).append (h.dropN _)
theorem RepsG.plain {us : List Value} {cs : List D} (h : RepsG rl ro blk w us cs) (hp : cs.all plainD = true) : Reps ro w us cs :=
  ⟨h.1, h.2.1, fun j u c hu hc => (h.2.2 j u c hu hc).rep (List.all_eq_true.1 hp c (List.mem_of_getElem? hc))⟩
theorem y_loadR {T : TypeId} {x : Operand} {t off id sz n : Nat} {cs : List D} {m : Nat} (hop : o.op = .load T x) (hx : vget env x = .ref t off) (hb : env t = .ubox cs) (hsh : tshape P T = some (false, m)) (hp : cs[off]? = some (.rr id sz n)) {d : Nat} (hdst : o.dst = some d) (hd : d < N) : Yield P N o env (.sref id sz n) := by
  refine yield_of hdst hd fun env' he base w0 ro0 ro blk a w hsim => ?_
  have h1 := hsim.get x 0
  rw [he.get (by simp [hop, Op.operands]), hx] at h1
  have h2 := hsim.sat t
  rw [he.2.1 x t off (by simp [addrOf, hop]) hx, hb] at h2
  obtain ⟨_, _, _, arr, e, h3, h4⟩ := h2
  have hlt : off < arr.toList.length := by rw [h4.1]; exact (List.getElem?_eq_some_iff.1 hp).1
  obtain ⟨u, hu⟩ : ∃ u, arr.toList[off]? = some u := ⟨_, List.getElem?_eq_getElem hlt⟩
  have h5 := h4.2.2 off u _ hu hp
  refine ⟨u, w, ro, ?_, Grow.refl hsim.new, h5⟩
  obtain ⟨i, dd, k1, k2, k3, k4⟩ := tshape_parts hsh
  have hagg := run_isAgg (w := w) k2
  rw [k3] at hagg
  have hcu : w.cell? ⟨blk t, off, none⟩ = some u := by rw [cell_of_row w _ _ arr e (0, 0) h3]; simpa using hu
  simp only [execOp, hop, Instr.loadAt, show a.eval x = _ from h1, Instr.sureAddr, Sem.run_bind, Sem.run_pure, Result.andThen_ok]
  simp [loadVar, Sem.run_bind, hagg, run_load, hcu, Result.andThen]
theorem y_loadU {T : TypeId} {x : Operand} {t off : Nat} {cs : List D} {sh : Bool × Nat} {r : D} (hop : o.op = .load T x) (hx : vget env x = .ref t off) (hb : env t = .ubox cs) (hsh : tshape P T = some sh) (hp : partD sh cs off = some r) (hpl : (r.cells).all plainD = true) {d : Nat} (hdst : o.dst = some d) (hd : d < N) : Yield P N o env (.c (.d r)) := by
  refine yield_of hdst hd fun env' he base w0 ro0 ro blk a w hsim => ?_
  have h1 := hsim.get x 0
  rw [he.get (by simp [hop, Op.operands]), hx] at h1
  have h2 := hsim.sat t
  rw [he.2.1 x t off (by simp [addrOf, hop]) hx, hb] at h2
  obtain ⟨_, _, _, arr, e, h3, h4⟩ := h2
  obtain ⟨ag, m⟩ := sh
  -- the part that is read, as a row of its own
  have key : ∃ (us : List Value) (ds : List D), Reps ro w us ds ∧ (∀ (j : Nat) (u : Value), us[j]? = some u → w.cell? ⟨blk t, off + j, none⟩ = some u) ∧ partD (ag, m) ds 0 = some r := by
    cases ag with
    | true =>
      simp only [partD, if_true] at hp
      split at hp
      · rename_i hle
        injection hp with hp; subst hp
        refine ⟨(arr.toList.drop off).take m, (cs.drop off).take m, ((h4.dropN off).takeN m).plain hpl, fun j u hu => ?_, ?_⟩
        · rw [cell_of_row w _ _ arr e (0, 0) h3]
          rw [List.getElem?_take] at hu
          split at hu
          · rw [List.getElem?_drop] at hu; simpa using hu
          · cases hu
        · simp only [partD, if_true, List.drop_zero]
          rw [if_pos (by rw [List.length_take, List.length_drop]; omega), List.take_of_length_le (by rw [List.length_take]; omega)]
      · cases hp
    | false =>
      simp only [partD, Bool.false_eq_true, if_false] at hp
      have hlt : off < arr.toList.length := by rw [h4.1]; exact (List.getElem?_eq_some_iff.1 hp).1
      obtain ⟨u, hu⟩ : ∃ u, arr.toList[off]? = some u := ⟨_, List.getElem?_eq_getElem hlt⟩
      have hpr : plainD r = true := by
        cases r with
        | agg cs' =>
          have h5 := h4.2.2 off u _ hu hp
          rfl
        | rr => simp [D.cells, plainD] at hpl
        | stale => simp [D.cells, plainD] at hpl
        | _ => rfl
      refine ⟨[u], [r], ⟨rfl, by simpa using h4.2.1 u (List.mem_of_getElem? hu), fun j u' c hu' hc => ?_⟩, fun j u' hu' => ?_, by simp [partD]⟩
      · cases j with
        | zero => simp at hu' hc; subst hu' hc; exact (h4.2.2 off u r hu hp).rep hpr
        | succ j => simp at hu'
      · cases j with
        | zero => simp at hu'; subst hu'; rw [cell_of_row w _ _ arr e (0, 0) h3]; simpa using hu
        | succ j => simp at hu'
  obtain ⟨us, ds, k1, k2, k3⟩ := key
  obtain ⟨v, h5, h6⟩ := run_load_part (P := P) (o := off) (off := 0) hsh k1 k2 k3
  refine ⟨v, w, ro, ?_, Grow.refl hsim.new, h6⟩
  rw [Nat.add_zero] at h5
  simp only [execOp, hop, Instr.loadAt, show a.eval x = _ from h1, Instr.sureAddr, Sem.run_bind, Sem.run_pure, Result.andThen_ok, h5]
theorem s_storeX {T : TypeId} {x y : Operand} {t off : Nat} {cs ds : List D} {sh : Bool × Nat} (hop : o.op = .store T x y) (hx : vget env x = .ref t off) (hb : env t = .ubox cs) (htB : t < BIG) (hy : ∀ base w0 ro0 ro blk a w, SimM P N base w0 ro0 ro blk env a w → RepsG .pbox ro blk w (a.eval y).cells.toList ds) (hsh : tshape P T = some sh) (hn : ds.length = sh.2) (hoff : off + ds.length ≤ cs.length) (hdst : o.dst = none) :
    Step P N o env (upd env (some t) (.ubox (patch cs off ds))) := by
  intro base w0 ro0 a w ⟨ro, blk, hs⟩ K Q hK
  have h1 := hs.get x 0
  rw [hx] at h1
  have h2 := hs.sat t
  rw [hb] at h2
  obtain ⟨h20, h21, h22, arr, e, h23, h24⟩ := h2
  have hv := hy base w0 ro0 ro blk a w hs
  obtain ⟨ag, n⟩ := sh
  obtain ⟨i, dd, k1, k2, k3, k4⟩ := tshape_parts hsh
  have hvs : (a.eval y).cells.size = i.size := by have := hv.1; simp at this; omega
  have harr : arr.size = cs.length := by simpa using h24.1
  have hlen : (a.eval y).cells.toList.length = ds.length := hv.1
  have hst := run_storeCells_at P (blk t) off e (a.eval y).cells.toList 0 arr w h23 (by rw [hlen]; omega) hv.2.1
  simp only [Nat.add_zero] at hst
  have hrun : (execOp a.eval o).run P w = .ok .skip (w.setRow (blk t) (arr.toList.take off ++ (a.eval y).cells.toList ++ arr.toList.drop (off + (a.eval y).cells.toList.length)).toArray) := by
    simp only [execOp, hop, Instr.storeAt, show a.eval x = _ from h1, Instr.sureAddr, storeVar, sizeOf, typeInfo, Sem.run_bind, Sem.run_pure, Result.andThen_ok]
    simp [k1, hvs, hst]
  unfold Oper.wp
  rw [hrun, Oper.upon_skip, hdst]
  refine hK _ _ ⟨ro, blk, ?_⟩
  have hblk : ∀ k, k ≠ blk t → (w.setRow (blk t) (arr.toList.take off ++ (a.eval y).cells.toList ++ arr.toList.drop (off + (a.eval y).cells.toList.length)).toArray).heap[k]? = w.heap[k]? := fun k hk => setRow_other w _ k _ hk
  have hc : Evo ro ro w (w.setRow (blk t) (arr.toList.take off ++ (a.eval y).cells.toList ++ arr.toList.drop (off + (a.eval y).cells.toList.length)).toArray) := by
    refine ⟨fun b off' u hok hcu => ?_, fun b id k hb hr => ⟨by simpa using hb, k, hr⟩⟩
    have hne : b ≠ blk t := by intro e; subst e; unfold okAt at hok; rw [h22] at hok; exact hok
    exact ⟨by rw [World.cell?_of_block (w := w) (a := ⟨b, off', none⟩) (hblk b hne)]; exact hcu, hok⟩
  have hsl : ∀ id sz n u, BIG ≤ id → SlAt (.pbox id) ro w (blk id) sz n u → SlAt (.pbox id) ro (w.setRow (blk t) (arr.toList.take off ++ (a.eval y).cells.toList ++ arr.toList.drop (off + (a.eval y).cells.toList.length)).toArray) (blk id) sz n u := fun id sz n u hid h => h.keep fun _ hr => ⟨hblk _ (fun e => by rw [e, h22] at hr; cases hr), hr⟩
  have hkG : ∀ us cs, RepsG .pbox ro blk w us cs → RepsG .pbox ro blk (w.setRow (blk t) (arr.toList.take off ++ (a.eval y).cells.toList ++ arr.toList.drop (off + (a.eval y).cells.toList.length)).toArray) us cs := fun us cs h =>
    ⟨h.1, h.2.1, fun j u c hu hcj => by
      have := h.2.2 j u c hu hcj
      cases c with
      | rr id sz n => exact ⟨this.1, hsl id sz n u this.1 this.2⟩
      | stale => trivial
      | _ => exact Rep.evolve hc this⟩
  refine ⟨hs.below.trans (Under.of_below ⟨rfl, rfl, rfl, by simp, fun k hk => hblk k (by omega)⟩), by simpa using hs.room, hs.nodef, hs.size, hs.old, fun b hb => hs.new b (by simpa using hb), hs.uniq, hs.given, fun s ht => by
    by_cases es : s = t
    · subst es; simp [upd] at ht
    · simp only [upd, if_neg es] at ht; exact hs.left s ht, fun s => ?_⟩
  show SatS P base ro blk _ s (a.tmps.getD s undef) _
  by_cases es : s = t
  · subst es
    simp only [upd, if_true]
    refine ⟨h20, h21, h22, _, e, setRow_heap w _ arr _ e _ h23, ?_⟩
    rw [List.toList_toArray]
    exact (hkG _ _ h24).patch (hkG _ _ hv) off
  · simp only [upd, if_neg es]
    refine (hs.sat s).write (g := blk t) hc hblk (fun _ _ => rfl) (fun cs' e2 e3 => ?_) (fun _ _ _ _ e2 => by rw [h22] at e2; injection e2 with e2; exact es e2.symm) (fun τ n e2 => by rw [h22] at e2; cases e2) (fun id k => ⟨(fun e2 => by rw [h22] at e2; cases e2), (fun e2 => by rw [h22] at e2; cases e2)⟩) (fun id k e2 => by rw [h22] at e2; cases e2) (fun _ _ _ => ⟨(fun e2 => by rw [h22] at e2; first | (cases e2; done) | (injection e2 with e2; exact es e2.symm)), (fun e2 => by rw [h22] at e2; first | (cases e2; done) | (injection e2 with e2; exact es e2.symm))⟩) (fun τ _ _ => ⟨rfl, fun arr2 e2 x2 hh2 => ?_⟩)
    · have := hs.sat s
      rw [e2] at this
      have h5 := this.2.2.1
      rw [e3, h22] at h5
      injection h5 with h5; exact es h5.symm
    · rw [h23] at hh2; injection hh2 with hh2; injection hh2 with hh2 hh3 hh4; subst hh2 hh3 hh4
      refine ⟨_, setRow_heap w _ arr _ e _ h23, ?_⟩
      simp only [List.size_toArray, List.length_append, List.length_take, List.length_drop, hlen, Array.length_toList]
      omega
theorem s_storeU {T : TypeId} {x y : Operand} {t off : Nat} {cs : List D} {r : D} {sh : Bool × Nat} (hop : o.op = .store T x y) (hx : vget env x = .ref t off) (hb : env t = .ubox cs) (htB : t < BIG) (hy : vd env y = some r) (hsh : tshape P T = some sh) (hn : r.cells.length = sh.2) (hoff : off + r.cells.length ≤ cs.length) (hdst : o.dst = none) :
    Step P N o env (upd env (some t) (.ubox (patch cs off r.cells))) :=
  s_storeX hop hx hb htB (fun base w0 ro0 ro blk a w hs => (hs.getD hy).cells.toG) hsh hn hoff hdst
theorem s_storeR {T : TypeId} {x y : Operand} {t off id sz n m : Nat} {cs : List D} (hop : o.op = .store T x y) (hx : vget env x = .ref t off) (hb : env t = .ubox cs) (htB : t < BIG) (hy : vget env y = .sref id sz n) (hsh : tshape P T = some (false, 1)) (hoff : off < cs.length) (hdst : o.dst = none) :
    Step P N o env (upd env (some t) (.ubox (patch cs off [.rr id sz n]))) := by
  refine s_storeX hop hx hb htB (fun base w0 ro0 ro blk a w hs => ?_) hsh rfl hoff hdst
  have hv := hs.get y 0
  rw [hy] at hv
  have hone : (a.eval y).oneCell' = true ∧ (a.eval y).cells = #[a.eval y] := by
    rcases hv.2 with ⟨h, _⟩ | ⟨_, _, _, _, h, _⟩ <;> rw [h] <;> exact ⟨rfl, rfl⟩
  rw [hone.2]
  refine ⟨rfl, by simpa using hone.1, fun j u c hu hc => ?_⟩
  cases j with
  | zero => simp at hu hc; subst hu hc; exact hv
  | succ j => simp at hu
theorem s_storeA {T : TypeId} {x y : Operand} {t off : Nat} {cs ds : List D} {sh : Bool × Nat} (hop : o.op = .store T x y) (hx : vget env x = .ref t off) (hb : env t = .ubox cs) (htB : t < BIG) (hy : vget env y = .uagg ds) (hsh : tshape P T = some sh) (hn : ds.length = sh.2) (hoff : off + ds.length ≤ cs.length) (hdst : o.dst = none) :
    Step P N o env (upd env (some t) (.ubox (patch cs off ds))) := by
  refine s_storeX hop hx hb htB (fun base w0 ro0 ro blk a w hs => ?_) hsh hn hoff hdst
  have hv := hs.get y 0
  rw [hy] at hv
  obtain ⟨arr, h1, h2⟩ := hv
  rw [h1]; exact h2
theorem dg_storeE {T : TypeId} {x y : Operand} {ops : Array Oper} {fb : List Nat} {t off : Nat} {cs ds : List D} (hg : guardOk ops o env = some true) (hop : o.op = .store T x y) (hx : vget env x = .ref t off) (hb : env t = .ubox cs) (hst : ∀ env', AgreeC (clsOf fb o) o env env' → Step P N o env' (upd env' (some t) (.ubox ds))) (hdst : o.dst = none) (hd : derefOk ops o env = true) (hsm : t < BIG) :
    DG P N fb ops o env (.cont t (.ubox ds)) := by
  have ha : addrOf o = some x := by simp [addrOf, hop]
  refine ⟨⟨?_, hdst, by rw [hb]; rfl, rfl⟩, derefOk_spec hd, .inl ⟨hg, fun env' he _ => hst env' he⟩, fun u hu => (Option.some.inj hu) ▸ hsm⟩
  have := derefOk_spec hd x t off ha hx
  simp [contW, hop, isStore, this]
theorem dg_storeU {T : TypeId} {x y : Operand} {ops : Array Oper} {fb : List Nat} {t off : Nat} {cs : List D} {r : D} {sh : Bool × Nat} (hg : guardOk ops o env = some true) (hop : o.op = .store T x y) (hx : vget env x = .ref t off) (hb : env t = .ubox cs) (hy : vd env y = some r) (hsh : tshape P T = some sh) (hn : r.cells.length = sh.2) (hoff : off + r.cells.length ≤ cs.length) (hdst : o.dst = none) (hd : derefOk ops o env = true) (hsm : t < BIG) :
    DG P N fb ops o env (.cont t (.ubox (patch cs off r.cells))) := by
  have ha : addrOf o = some x := by simp [addrOf, hop]
  exact dg_storeE hg hop hx hb (fun env' he => s_storeU hop (by rw [he.get (by simp [hop, Op.operands])]; exact hx) ((he.2.1 x t off ha hx).trans hb) hsm (by rw [he.getD (by simp [hop, Op.operands])]; exact hy) hsh hn hoff hdst) hdst hd hsm
theorem dg_storeR {T : TypeId} {x y : Operand} {ops : Array Oper} {fb : List Nat} {t off id sz n : Nat} {cs : List D} (hg : guardOk ops o env = some true) (hop : o.op = .store T x y) (hx : vget env x = .ref t off) (hb : env t = .ubox cs) (hy : vget env y = .sref id sz n) (hsh : tshape P T = some (false, 1)) (hoff : off < cs.length) (hdst : o.dst = none) (hd : derefOk ops o env = true) (hsm : t < BIG) :
    DG P N fb ops o env (.cont t (.ubox (patch cs off [.rr id sz n]))) := by
  have ha : addrOf o = some x := by simp [addrOf, hop]
  exact dg_storeE hg hop hx hb (fun env' he => s_storeR (m := 1) hop (by rw [he.get (by simp [hop, Op.operands])]; exact hx) ((he.2.1 x t off ha hx).trans hb) hsm (by rw [he.get (by simp [hop, Op.operands])]; exact hy) hsh hoff hdst) hdst hd hsm
end
end Go.Vm
end
section
namespace Go.Vm
open Go.RowKit
section
variable {P : Program} {N base : Nat} {w0 w w' : World} {ro0 : Start} {ro ro' : Roles} {blk blk' : Nat → Nat} {env : Env} {a : Act} {o : Oper}
theorem SimM.writeE (hs : SimM P N base w0 ro0 ro blk env a w) {id sz : Nat} (hid : BIG ≤ id) (hsz : 0 < sz) {zs : List D} (hw : ∀ x ∈ zs, x.cells.length = sz) {arr arr' : Array Value} {e : TypeId} (hro : ro (blk id) = .pbox id) (hh : w.heap[blk id]? = some (.cells arr e (0, 0)))
    (hl : arr'.size = arr.size) (hz : zs.length * sz ≤ arr'.size) (hr : Reps ro w (arr'.toList.take (zs.length * sz)) (flat zs)) (hos : w'.os = w.os) (htp : w'.tape = w.tape) (hou : w'.output = w.output) (hsiz : w'.heap.size = w.heap.size) (hblk : ∀ k, k ≠ blk id → w'.heap[k]? = w.heap[k]?) (hnew : w'.heap[blk id]? = some (.cells arr' e (0, 0))) :
    SimM P N base w0 ro0 ro blk (upd env (some id) (.gbox sz zs)) a w' := by
  have hc : Evo ro ro w w' := by
    refine ⟨fun b off' u hok hcu => ?_, fun b i k hb hr => ⟨by omega, k, hr⟩⟩
    have hne : b ≠ blk id := by intro e; subst e; unfold okAt at hok; rw [hro] at hok; exact hok
    exact ⟨by rw [World.cell?_of_block (w := w) (a := ⟨b, off', none⟩) (hblk b hne)]; exact hcu, hok⟩
  refine ⟨hs.below.trans (Under.of_mine (hs.old.pb _ _ hro) hos htp hou (by omega) (fun k hk _ => hblk k hk) hs.room), by have := hs.room; omega, hs.nodef, hs.size, hs.old, fun b hb => hs.new b (by omega), hs.uniq, hs.given, fun t ht => by
    simp only [upd] at ht
    split at ht
    · cases ht
    · exact hs.left t ht, fun t => ?_⟩
  by_cases ei : t = id
  · subst ei
    simp only [upd, if_true]
    exact ⟨hsz, hw, .inr ⟨hro, arr', e, hnew, hz, hr.evolve hc⟩⟩
  · simp only [upd, if_neg ei]
    refine (hs.sat t).write (g := blk id) hc hblk (fun _ _ => rfl) (fun cs' e2 e3 => ?_) (fun _ _ _ _ e2 => by rw [hro] at e2; cases e2) (fun τ n e2 => by rw [hro] at e2; cases e2) (fun i k => ⟨(fun e2 => by rw [hro] at e2; cases e2), (fun e2 => by rw [hro] at e2; cases e2)⟩) (fun i k e2 => by rw [hro] at e2; cases e2) (fun _ _ _ => ⟨(fun e2 => by rw [hro] at e2; first | (cases e2; done) | (injection e2 with e2; exact ei e2.symm)), (fun e2 => by rw [hro] at e2; first | (cases e2; done) | (injection e2 with e2; exact ei e2.symm))⟩) (fun τ _ _ => ⟨rfl, fun arr2 e2 x2 hh2 => by rw [hh] at hh2; injection hh2 with hh2; injection hh2 with k1 k2 k3; subst k1 k2 k3; exact ⟨_, hnew, hl⟩⟩)
    have := hs.sat t
    rw [e2] at this
    have h5 := this.2.2.1
    rw [e3, hro] at h5
    first | (cases h5; done) | (injection h5 with h5; exact ei h5.symm)
theorem take_splice {α : Type} (l m : List α) (off k : Nat) (h1 : off + m.length ≤ k) (h2 : k ≤ l.length) : (l.take off ++ m ++ l.drop (off + m.length)).take k = (l.take k).take off ++ m ++ (l.take k).drop (off + m.length) := by
  apply List.ext_getElem?
  intro i
  simp only [List.getElem?_take, List.getElem?_append, List.getElem?_drop, List.length_append, List.length_take]
  split <;> split <;> (try split) <;> (try split) <;> (try split) <;> (try split) <;> (try omega) <;> (try rfl) <;> (try (congr 1; omega)) <;> (try (rw [List.getElem?_eq_none (by omega)]))
theorem s_storeG {T : TypeId} {x y : Operand} {id sz off : Nat} {xs zs : List D} {r : D} {sh : Bool × Nat} (hop : o.op = .store T x y) (hx : vget env x = .gref id sz off) (hb : env id = .gbox sz xs) (hy : vd env y = some r) (hsh : tshape P T = some sh) (hn : r.cells.length = sh.2) (hoff : off + r.cells.length ≤ xs.length * sz) (hne : xs ≠ [])
    (hz : flat zs = patch (flat xs) off r.cells) (hzl : zs.length = xs.length) (hzw : ∀ z ∈ zs, z.cells.length = sz) (hdst : o.dst = none) : Step P N o env (upd env (some id) (.gbox sz zs)) := by
  intro base w0 ro0 a w ⟨ro, blk, hs⟩ K Q hK
  have h1 := hs.get x 0
  rw [hx] at h1
  obtain ⟨hbig, hro, h1, _⟩ := h1
  have hg := hs.sat id
  rw [hb] at hg
  obtain ⟨g1, g2, g3⟩ := hg
  obtain ⟨_, arr, e, h23, h24, h25⟩ := g3.resolve_left hne
  have hv := (hs.getD hy).cells
  obtain ⟨ag, n⟩ := sh
  obtain ⟨i, dd, k1, k2, k3, k4⟩ := tshape_parts hsh
  have hvs : (a.eval y).cells.size = i.size := by have := hv.1; simp at this; omega
  have hlen : (a.eval y).cells.toList.length = r.cells.length := hv.1
  have hst := run_storeCells_at P (blk id) off e (a.eval y).cells.toList 0 arr w h23 (by rw [hlen]; omega) hv.2.1
  simp only [Nat.add_zero] at hst
  have hrun : (execOp a.eval o).run P w = .ok .skip (w.setRow (blk id) (arr.toList.take off ++ (a.eval y).cells.toList ++ arr.toList.drop (off + (a.eval y).cells.toList.length)).toArray) := by
    simp only [execOp, hop, Instr.storeAt, h1, Instr.sureAddr, storeVar, sizeOf, typeInfo, Sem.run_bind, Sem.run_pure, Result.andThen_ok]
    simp [k1, hvs, hst]
  unfold Oper.wp
  rw [hrun, Oper.upon_skip, hdst]
  refine hK _ _ ⟨ro, blk, ?_⟩
  have hsz : (arr.toList.take off ++ (a.eval y).cells.toList ++ arr.toList.drop (off + (a.eval y).cells.toList.length)).toArray.size = arr.size := by
    simp only [List.size_toArray, List.length_append, List.length_take, List.length_drop, hlen, Array.length_toList]
    omega
  refine hs.writeE (w' := w.setRow (blk id) (arr.toList.take off ++ (a.eval y).cells.toList ++ arr.toList.drop (off + (a.eval y).cells.toList.length)).toArray) hbig g1 hzw hro h23 hsz (by rw [hsz, hzl]; exact h24) ?_ rfl rfl rfl (by simp) (fun k hk => setRow_other w _ k _ hk) (setRow_heap w _ arr _ e _ h23)
  rw [List.toList_toArray, hz, hzl]
  have hp := h25.patch hv off
  have e1 : (arr.toList.take off ++ (a.eval y).cells.toList ++ arr.toList.drop (off + (a.eval y).cells.toList.length)).take (xs.length * sz) = (arr.toList.take (xs.length * sz)).take off ++ (a.eval y).cells.toList ++ (arr.toList.take (xs.length * sz)).drop (off + (a.eval y).cells.toList.length) := by
    exact take_splice _ _ _ _ (by rw [hlen]; exact hoff) (by simpa using h24)
  rw [e1]
  exact hp
end
end Go.Vm
end
section
namespace Go.Vm
open Go.RowKit
def uses (s : S) (i : Nat) : Prop := match s with
 | .sref j _ _ => j = i
 | .gref j _ _ => j = i
 | .ref j _ => j = i
 | .ubox cs => ∃ sz n, .rr i sz n ∈ cs
 | .uagg cs => ∃ sz n, .rr i sz n ∈ cs
 | .uobj cs => ∃ sz n, .rr i sz n ∈ cs
 | _ => False
section
variable {P : Program} {N base : Nat} {w0 w w' : World} {ro0 : Start} {ro ro' : Roles} {blk blk' : Nat → Nat} {env env' : Env} {a : Act} {o : Oper}
def labels (rows : List (Nat × Nat × List D)) : List Nat := rows.map (·.1)
end
section
variable {P : Program} {N : Nat} {env : Env} {o : Oper}
end
end Go.Vm
end
section
namespace Go.Vm
open Go.RowKit
structure Leaf (p : Prop) : Prop where
  out : p
inductive Tr where
  | leaf
  | node (v : S) (l r : Tr)
def Tr.get : Tr → Nat → S
  | .leaf, _ => .junk
  | .node v l r, n => match Nat.beq n 0 with
    | true => v
    | false => match Nat.beq (Nat.mod n 2) 1 with
      | true => l.get (Nat.div n 2)
      | false => r.get (Nat.sub (Nat.div n 2) 1)
def setK : Nat → Tr → Nat → S → (Tr → Prop) → Prop
  | 0, t, _, _, K => False
  | f + 1, .leaf, n, s, K => match Nat.beq n 0 with
    | true => K (.node s .leaf .leaf)
    | false => match Nat.beq (Nat.mod n 2) 1 with
      | true => setK f .leaf (Nat.div n 2) s fun l => K (.node .junk l .leaf)
      | false => setK f .leaf (Nat.sub (Nat.div n 2) 1) s fun r => K (.node .junk .leaf r)
  | f + 1, .node v l r, n, s, K => match Nat.beq n 0 with
    | true => K (.node s l r)
    | false => match Nat.beq (Nat.mod n 2) 1 with
      | true => setK f l (Nat.div n 2) s fun l => K (.node v l r)
      | false => setK f r (Nat.sub (Nat.div n 2) 1) s fun r => K (.node v l r)
theorem setK_spec : ∀ {f : Nat} {t : Tr} {n : Nat} {s : S} {K : Tr → Prop}, setK f t n s K → ∃ t', (∀ u, t'.get u = if u = n then s else t.get u) ∧ K t'
  | 0, _, _, _, _, h => h.elim
  | f + 1, t, n, s, K, h => by
    have beq0 : ∀ m : Nat, Nat.beq m 0 = decide (m = 0) := fun m => by cases m <;> rfl
    have beqe : ∀ m k : Nat, Nat.beq m k = decide (m = k) := fun m k => by
      rw [Bool.eq_iff_iff]; simp [Nat.beq_eq]
    have key : ∀ (v : S) (l r : Tr), (∀ u, t.get u = (Tr.node v l r).get u) → (match Nat.beq n 0 with
        | true => K (.node s l r)
        | false => match Nat.beq (Nat.mod n 2) 1 with
          | true => setK f l (Nat.div n 2) s fun l => K (.node v l r)
          | false => setK f r (Nat.sub (Nat.div n 2) 1) s fun r => K (.node v l r)) → ∃ t', (∀ u, t'.get u = if u = n then s else t.get u) ∧ K t' := by
      intro v l r hv h
      by_cases hn : n = 0
      · subst hn
        simp only [beqe, decide_true] at h
        refine ⟨_, fun u => ?_, h⟩
        rw [hv]
        by_cases hu : u = 0
        · subst hu; rfl
        · simp only [Tr.get, beqe, hu, decide_false, if_false]
      · have h0 : Nat.beq n 0 = false := by rw [beqe]; simpa using hn
        rw [h0] at h
        by_cases hp : n % 2 = 1
        · have h1 : Nat.beq (Nat.mod n 2) 1 = true := by rw [beqe]; exact decide_eq_true hp
          rw [h1] at h
          obtain ⟨l', hl, hK⟩ := setK_spec h
          refine ⟨_, fun u => ?_, hK⟩
          rw [hv]
          simp only [Tr.get, beqe, hl]
          have e1 : Nat.mod u 2 = u % 2 := rfl
          have e2 : Nat.div u 2 = u / 2 := rfl
          have e3 : Nat.div n 2 = n / 2 := rfl
          by_cases hu : u = 0
          · subst hu; simp [show ¬ 0 = n from fun e => hn e.symm]
          · by_cases hq : u % 2 = 1
            · simp only [hu, e1, hq, decide_false, decide_true, e2, e3]
              by_cases e : u = n
              · subst e; simp
              · rw [if_neg e, if_neg (by omega)]
            · simp only [hu, e1, hq, decide_false]
              rw [if_neg (by intro e; subst e; exact hq hp)]
        · have h1 : Nat.beq (Nat.mod n 2) 1 = false := by rw [beqe]; exact decide_eq_false hp
          rw [h1] at h
          obtain ⟨r', hr, hK⟩ := setK_spec h
          refine ⟨_, fun u => ?_, hK⟩
          rw [hv]
          simp only [Tr.get, beqe, hr]
          have e1 : Nat.mod u 2 = u % 2 := rfl
          have e2 : Nat.sub (Nat.div u 2) 1 = u / 2 - 1 := rfl
          have e3 : Nat.sub (Nat.div n 2) 1 = n / 2 - 1 := rfl
          by_cases hu : u = 0
          · subst hu; simp [show ¬ 0 = n from fun e => hn e.symm]
          · by_cases hq : u % 2 = 1
            · simp only [hu, e1, hq, decide_false, decide_true]
              rw [if_neg (by intro e; subst e; exact hp hq)]
            · simp only [hu, e1, hq, decide_false, e2, e3]
              by_cases e : u = n
              · subst e; simp
              · rw [if_neg e, if_neg (by omega)]
    cases t with
    | leaf =>
      refine key .junk .leaf .leaf (fun u => ?_) h
      simp only [Tr.get]
      split
      · rfl
      · split <;> rfl
    | node v l r => exact key v l r (fun u => rfl) h
def mapK (g : S → (S → Prop) → Prop) : Tr → (Tr → Prop) → Prop
  | .leaf, K => K .leaf
  | .node v l r, K => g v fun v' => mapK g l fun l' => mapK g r fun r' => K (.node v' l' r')
theorem mapK_spec {g : S → (S → Prop) → Prop} {f : S → S} (hf : f .junk = .junk) (hg : ∀ s K, g s K → K (f s)) : ∀ {t : Tr} {K : Tr → Prop}, mapK g t K → ∃ t', (∀ u, t'.get u = f (t.get u)) ∧ K t'
  | .leaf, K, h => ⟨.leaf, fun u => hf.symm, h⟩
  | .node v l r, K, h => by
    obtain ⟨l', hl, h⟩ := mapK_spec hf hg (hg _ _ h)
    obtain ⟨r', hr, h⟩ := mapK_spec hf hg h
    refine ⟨_, fun u => ?_, h⟩
    simp only [Tr.get]
    split
    · rfl
    · split
      · exact hl _
      · exact hr _
abbrev Hp := Nat → S
def nameS (s : S) : S := match s with
  | .obj cs => .obj cs
  | .mapo es => .mapo es
  | .free => .free
  | .gbox sz xs => .gbox sz xs
  | .uobj cs => .uobj cs
  | .pack cs rows => .pack cs rows
  | _ => .junk
def envT (t : Tr) (h : Hp) : Env := fun u => if u < NAM then t.get u else nameS (h u)
theorem envT_set {t t' : Tr} {h : Hp} {n : Nat} {s : S} (hn : n < NAM) (ht : ∀ u, t'.get u = if u = n then s else t.get u) : envT t' h = upd (envT t h) (some n) s := by
  funext u
  simp only [envT, upd, ht]
  by_cases e : u = n
  · subst e; simp [hn]
  · simp [e]
theorem envT_name {t : Tr} {h : Hp} {n : Nat} {s : S} (hn : NAM ≤ n) : envT t (fun u => if u = n then s else h u) = upd (envT t h) (some n) (nameS s) := by
  funext u
  simp only [envT, upd]
  by_cases e : u = n
  · subst e; simp [show ¬ u < NAM by omega]
  · simp [e]
theorem envT_at {t : Tr} {h : Hp} {n : Nat} (hn : NAM ≤ n) : envT t h n = nameS (h n) := by simp [envT, show ¬ n < NAM by omega]
theorem envT_lt {t : Tr} {h : Hp} {n : Nat} (hn : n < NAM) : envT t h n = t.get n := by simp [envT, hn]
def sK (s : S) (K : S → Prop) : Prop := match s with
  | .junk => K .junk
  | .c (.d x) => K (.c (.d x))
  | .c (.own τ e xs) => K (.c (.own τ e xs))
  | .c .nil => K (.c .nil)
  | .box cs => K (.box cs)
  | .ref t o => K (.ref t o)
  | .at_ cs o => K (.at_ cs o)
  | .tup cs => K (.tup cs)
  | .obj cs => K (.obj cs)
  | .mapo es => K (.mapo es)
  | .iter a b c => K (.iter a b c)
  | .free => K .free
  | .gbox a b => K (.gbox a b)
  | .sref a b c => K (.sref a b c)
  | .gref a b c => K (.gref a b c)
  | .ubox cs => K (.ubox cs)
  | .uagg cs => K (.uagg cs)
  | .uobj cs => K (.uobj cs)
  | .pack cs rows => K (.pack cs rows)
theorem sK_spec {s : S} {K : S → Prop} (h : sK s K) : K s := by
  cases s with
  | c x => cases x <;> exact h
  | _ => exact h
def lK : List D → (List D → Prop) → Prop
  | [], K => K []
  | d :: l, K => lK l fun l' => K (d :: l')
theorem lK_spec : ∀ {l : List D} {K : List D → Prop}, lK l K → K l
  | [], _, h => h
  | d :: l, K, h => lK_spec (l := l) (K := fun l' => K (d :: l')) h
def cellsK (d : D) (K : List D → Prop) : Prop := match d with
  | .agg cs => lK cs K
  | .sc v => K [.sc v]
  | .row xs => K [.row xs]
  | .ptr a b => K [.ptr a b]
  | .mp a => K [.mp a]
  | .fn f cs => K [.fn f cs]
  | .rr a b c => K [.rr a b c]
  | .stale => K [.stale]
theorem cellsK_spec {d : D} {K : List D → Prop} (h : cellsK d K) : K d.cells := by
  cases d with
  | agg cs => exact lK_spec h
  | _ => exact h
def nthK : List D → Nat → (D → Prop) → Prop
  | [], _, _ => False
  | d :: _, 0, K => K d
  | _ :: l, n + 1, K => nthK l n K
theorem nthK_spec : ∀ {l : List D} {n : Nat} {K : D → Prop}, nthK l n K → ∃ d, l[n]? = some d ∧ K d
  | [], _, _, h => h.elim
  | d :: _, 0, _, h => ⟨d, rfl, h⟩
  | _ :: l, n + 1, K, h => by
    obtain ⟨d, h1, h2⟩ := nthK_spec (l := l) (n := n) h
    exact ⟨d, by simpa using h1, h2⟩
def takeK : Nat → List D → (List D → Prop) → Prop
  | 0, _, K => K []
  | _ + 1, [], _ => False
  | n + 1, d :: l, K => takeK n l fun l' => K (d :: l')
theorem takeK_spec : ∀ {n : Nat} {l : List D} {K : List D → Prop}, takeK n l K → n ≤ l.length ∧ K (l.take n)
  | 0, l, K, h => ⟨Nat.zero_le _, by have h' : K [] := (by cases l <;> exact h); simpa using h'⟩
  | _ + 1, [], _, h => h.elim
  | n + 1, d :: l, K, h => by
    obtain ⟨h1, h2⟩ := takeK_spec (n := n) (l := l) (K := fun l' => K (d :: l')) h
    exact ⟨by simpa using h1, by simpa using h2⟩
def dropK : Nat → List D → (List D → Prop) → Prop
  | 0, l, K => K l
  | _ + 1, [], _ => False
  | n + 1, _ :: l, K => dropK n l K
theorem dropK_spec : ∀ {n : Nat} {l : List D} {K : List D → Prop}, dropK n l K → n ≤ l.length ∧ K (l.drop n)
  | 0, l, K, h => ⟨Nat.zero_le _, by have h' : K l := (by cases l <;> exact h); simpa using h'⟩
  | _ + 1, [], _, h => h.elim
  | n + 1, d :: l, K, h => by
    obtain ⟨h1, h2⟩ := dropK_spec (n := n) (l := l) (K := K) h
    exact ⟨by simpa using h1, by simpa using h2⟩
def partK (sh : Bool × Nat) (cs : List D) (off : Nat) (K : D → Prop) : Prop := match sh.1 with
  | true => dropK off cs fun l => takeK sh.2 l fun l' => K (.agg l')
  | false => nthK cs off K
theorem partK_spec {sh : Bool × Nat} {cs : List D} {off : Nat} {K : D → Prop} (h : partK sh cs off K) : ∃ d, partD sh cs off = some d ∧ K d := by
  obtain ⟨ag, n⟩ := sh
  cases ag with
  | true =>
    obtain ⟨h1, h2⟩ := dropK_spec (l := cs) (K := fun l => takeK n l fun l' => K (.agg l')) h
    obtain ⟨h3, h4⟩ := takeK_spec (K := fun l' => K (.agg l')) h2
    rw [List.length_drop] at h3
    exact ⟨_, by simp only [partD, if_true]; rw [if_pos (by omega)], h4⟩
  | false => exact nthK_spec h
def patchK : List D → Nat → List D → (List D → Prop) → Prop
  | l, 0, [], K => K l
  | _ :: l, 0, r :: rs, K => patchK l 0 rs fun l' => K (r :: l')
  | d :: l, n + 1, rs, K => patchK l n rs fun l' => K (d :: l')
  | _, _, _, _ => False
theorem patchK_spec : ∀ {l : List D} {n : Nat} {rs : List D} {K : List D → Prop}, patchK l n rs K → n + rs.length ≤ l.length ∧ K (patch l n rs)
  | l, 0, [], K, h => by
    have h' : K l := by cases l <;> exact h
    exact ⟨by simp, by simpa [patch] using h'⟩
  | d :: l, 0, r :: rs, K, h => by
    obtain ⟨h1, h2⟩ := patchK_spec (l := l) (n := 0) (rs := rs) (K := fun l' => K (r :: l')) h
    refine ⟨by simp at h1 ⊢; omega, ?_⟩
    simpa [patch] using h2
  | d :: l, n + 1, rs, K, h => by
    have h' : patchK l n rs fun l' => K (d :: l') := by cases rs <;> exact h
    obtain ⟨h1, h2⟩ := patchK_spec h'
    refine ⟨by simp at h1 ⊢; omega, ?_⟩
    have e : n + 1 + rs.length = (n + rs.length) + 1 := by omega
    simpa [patch, e] using h2
  | [], 0, _ :: _, _, h => h.elim
  | [], _ + 1, [], _, h => h.elim
  | [], _ + 1, _ :: _, _, h => h.elim
inductive TyI where
  | one (z : List D)
  | str
  | agg (ps : List (Nat × Nat)) (z : List D)
  | slice (e sz bytes : Nat)
  | arr (n e sz : Nat) (z : List D)
  | arrB (n e sz : Nat)
inductive TT where
  | leaf
  | node (v : Option TyI) (l r : TT)
def TT.get : TT → Nat → Option TyI
  | .leaf, _ => none
  | .node v l r, n => match Nat.beq n 0 with
    | true => v
    | false => match Nat.beq (Nat.mod n 2) 1 with
      | true => l.get (Nat.div n 2)
      | false => r.get (Nat.sub (Nat.div n 2) 1)
end Go.Vm
end
section
namespace Go.Vm
open Go.RowKit
def placesOf (P : Program) (t : TypeId) : Option (List (Nat × Nat)) := match P.underlying t with
  | some (.struct fields) => fields.toList.mapM (fun f => (P.info? f.type).map fun i => (f.offset, i.size))
  | _ => none
def tyOk (P : Program) (t : TypeId) : TyI → Prop
  | .one z => tshape P t = some (false, 1) ∧ zeroOf P t = some z
  | .str => tshape P t = some (false, 1) ∧ P.underlying t = some .string ∧ zeroOf P t = some [.sc (.string ⟨#[]⟩)]
  | .agg ps z => tshape P t = some (true, z.length) ∧ placesOf P t = some ps ∧ zeroOf P t = some z
  | .slice e sz bytes => tshape P t = some (false, 1) ∧ elemFull P t = some (e, sz, bytes) ∧ (zeroOf P e).isSome = true ∧ zeroOf P t = some [.row []]
  | .arr n e sz z => tshape P t = some (true, n * sz) ∧ arrShape P t = some (n, sz) ∧ zeroOf P t = some z
  | .arrB n e sz => tshape P t = some (true, n * sz) ∧ arrShape P t = some (n, sz)
def TTok (P : Program) (tt : TT) : Prop := ∀ t i, tt.get t = some i → tyOk P t i
def TT.all (p : Nat → TyI → Prop) : TT → Prop
  | .leaf => True
  | .node v l r => (∀ i, v = some i → p 0 i) ∧ l.all (fun m i => p (2 * m + 1) i) ∧ r.all (fun m i => p (2 * m + 2) i)
theorem TT.mk {p : Nat → TyI → Prop} {v : Option TyI} {l r : TT} (h0 : ∀ i, v = some i → p 0 i) (h1 : l.all fun m i => p (2 * m + 1) i) (h2 : r.all fun m i => p (2 * m + 2) i) : (TT.node v l r).all p := ⟨h0, h1, h2⟩
theorem TT.all_get : ∀ {tt : TT} {p : Nat → TyI → Prop}, tt.all p → ∀ n i, tt.get n = some i → p n i
  | .leaf, _, _, n, i, h => by simp [TT.get] at h
  | .node v l r, p, ⟨h0, h1, h2⟩, n, i, h => by
    have beqe : ∀ m k : Nat, Nat.beq m k = decide (m = k) := fun m k => by
      rw [Bool.eq_iff_iff]; simp [Nat.beq_eq]
    simp only [TT.get, beqe] at h
    by_cases hn : n = 0
    · subst hn; exact h0 i (by simpa using h)
    · simp only [hn, decide_false] at h
      have e1 : Nat.mod n 2 = n % 2 := rfl
      have e2 : Nat.div n 2 = n / 2 := rfl
      by_cases hp : n % 2 = 1
      · simp only [e1, hp, decide_true, e2] at h
        have := TT.all_get h1 (n / 2) i h
        simpa [show 2 * (n / 2) + 1 = n by omega] using this
      · simp only [e1, hp, decide_false] at h
        have := TT.all_get h2 (n / 2 - 1) i h
        simpa [show 2 * (n / 2 - 1) + 2 = n by omega] using this
def shI : TyI → Bool × Nat
  | .one _ => (false, 1)
  | .str => (false, 1)
  | .agg _ z => (true, z.length)
  | .slice .. => (false, 1)
  | .arr n _ sz _ => (true, n * sz)
  | .arrB n _ sz => (true, n * sz)
def zI : TyI → Option (List D)
  | .one z => some z
  | .str => some [.sc (.string ⟨#[]⟩)]
  | .agg _ z => some z
  | .slice .. => some [.row []]
  | .arr _ _ _ z => some z
  | .arrB .. => none
theorem shI_ok {P : Program} {t : TypeId} {i : TyI} (h : tyOk P t i) : tshape P t = some (shI i) := by
  cases i <;> exact h.1
theorem zI_ok {P : Program} {t : TypeId} {i : TyI} {z : List D} (h : tyOk P t i) (hz : zI i = some z) : zeroOf P t = some z := by
  cases i <;> simp only [zI, Option.some.injEq] at hz <;> first | (subst hz; first | exact h.2 | exact h.2.2 | exact h.2.2.2) | cases hz
theorem mapM_at {α β : Type} {f : α → Option β} : ∀ {l : List α} {r : List β} {k : Nat} {b : β}, l.mapM f = some r → r[k]? = some b → ∃ a, l[k]? = some a ∧ f a = some b
  | [], r, k, b, h, hb => by simp at h; subst h; simp at hb
  | x :: l, r, k, b, h, hb => by
    simp only [List.mapM_cons, Option.bind_eq_bind, Option.pure_def, Option.bind_eq_some_iff, Option.some.injEq] at h
    obtain ⟨y, hy, r', hr, rfl⟩ := h
    cases k with
    | zero => simp at hb; subst hb; exact ⟨x, rfl, hy⟩
    | succ k =>
      obtain ⟨a, h1, h2⟩ := mapM_at hr (by simpa using hb)
      exact ⟨a, by simpa using h1, h2⟩
theorem field_ok {P : Program} {t : TypeId} {ps : List (Nat × Nat)} {f off sz : Nat} (h : placesOf P t = some ps) (hf : ps[f]? = some (off, sz)) (h0 : sz ≠ 0) : fieldOff P t f = some off := by
  unfold placesOf at h
  split at h
  · rename_i fields hu
    obtain ⟨g, h1, h2⟩ := mapM_at h hf
    obtain ⟨i, h3, h4⟩ := Option.map_eq_some_iff.1 h2
    simp only [Prod.mk.injEq] at h4
    unfold fieldOff
    rw [hu]
    simp only
    have : fields[f]? = some g := by simpa using h1
    rw [this]
    simp only
    rw [if_neg (by unfold Program.cellsOf; rw [h3]; simpa [h4.2] using h0), h4.1]
  · cases h
theorem built_ok {P : Program} {t : TypeId} {ps : List (Nat × Nat)} {z : List D} (h : placesOf P t = some ps) (hz : zeroOf P t = some z) (parts : List (Nat × D)) : builtD P t parts = fillD (ps.toArray[·]?) z parts := by
  unfold placesOf at h
  split at h
  · rename_i fields hu
    obtain ⟨i, zz, h1, h2, h3⟩ := zeroOf_parts hz
    unfold builtD
    rw [h1, hu]
    simp only
    rw [h2, h]
    simp only
    rw [h3]
  · cases h
def ovK (t : Tr) (x : Operand) (K : S → Prop) : Prop := match x with
  | .tmp u => match Nat.ble 1000000 u with
    | true => False
    | false => sK (slotV u (t.get u)) K
  | .const v => sK (vconst v) K
  | .func f => K (.c (.d (.fn f [])))
  | .global _ => K .junk
theorem ble_lt {u : Nat} (h : Nat.ble 1000000 u = false) : u < NAM := by
  rcases Nat.lt_or_ge u 1000000 with h1 | h1
  · exact h1
  · rw [Nat.ble_eq_true_of_le h1] at h; cases h
theorem ovK_spec {t : Tr} {h : Hp} {x : Operand} {K : S → Prop} (hk : ovK t x K) : K (vget (envT t h) x) := by
  cases x with
  | tmp u =>
    simp only [ovK] at hk
    split at hk
    · exact hk.elim
    · rename_i hb
      show K (slotV u (envT t h u))
      rw [envT_lt (ble_lt hb)]
      exact sK_spec hk
  | const v => exact sK_spec hk
  | global g => exact hk
  | func f => exact hk
def dK (t : Tr) (x : Operand) (K : D → Prop) : Prop := ovK t x fun s => match s with
  | .c (.d x) => K x
  | .c (.own _ _ xs) => K (.row xs)
  | .c .nil => K (.row [])
  | _ => False
theorem dK_spec {t : Tr} {h : Hp} {x : Operand} {K : D → Prop} (hk : dK t x K) : ∃ d, vd (envT t h) x = some d ∧ K d := by
  have := ovK_spec (h := h) hk
  unfold vd
  cases hs : vget (envT t h) x with
  | c c =>
    rw [hs] at this
    cases c with
    | d x => exact ⟨_, rfl, this⟩
    | own τ e xs => exact ⟨_, rfl, this⟩
    | nil => exact ⟨_, rfl, this⟩
  | _ => rw [hs] at this; exact this.elim
def vK (t : Tr) (x : Operand) (K : Value → Prop) : Prop := dK t x fun d => match d with
  | .sc v => K v
  | _ => False
theorem vK_spec {t : Tr} {h : Hp} {x : Operand} {K : Value → Prop} (hk : vK t x K) : ∃ v, vd (envT t h) x = some (.sc v) ∧ vc1 (envT t h) x = some v ∧ K v := by
  obtain ⟨d, h1, h2⟩ := dK_spec (h := h) hk
  cases d with
  | sc v => exact ⟨v, h1, by unfold vc1; rw [h1]; rfl, h2⟩
  | _ => exact h2.elim
def argsK (t : Tr) : List Operand → (List D → Prop) → Prop
  | [], K => K []
  | x :: l, K => dK t x fun d => argsK t l fun ds => K (d :: ds)
theorem argsK_spec {t : Tr} {h : Hp} : ∀ {l : List Operand} {K : List D → Prop}, argsK t l K → ∃ ds, vargs (envT t h) l = some ds ∧ K ds
  | [], K, hk => ⟨[], rfl, hk⟩
  | x :: l, K, hk => by
    obtain ⟨d, h1, h2⟩ := dK_spec (h := h) hk
    obtain ⟨ds, h3, h4⟩ := argsK_spec (h := h) (l := l) (K := fun ds => K (d :: ds)) h2
    exact ⟨d :: ds, by simp [vargs, h1, h3], h4⟩
def sameK : IntKind → IntKind → Bool
  | .i64, .i64 => true
  | .u8, .u8 => true
  | .i32, .i32 => true
  | .u32, .u32 => true
  | .u64, .u64 => true
  | _, _ => false
theorem sameK_spec {a b : IntKind} (h : sameK a b = true) : a = b := by
  cases a <;> cases b <;> first | rfl | cases h
def binK (P : Program) (op : BinOp) (T : TypeId) (x y : Operand) (u v : Value) (K : Value → Prop) : Prop := match op, u, v with
  | .lss, .int k a, .int k' b => match sameK k k' with
    | true => K (.bool (decide (a < b)))
    | false => False
  | .leq, .int k a, .int k' b => match sameK k k' with
    | true => K (.bool (decide (a ≤ b)))
    | false => False
  | .gtr, .int k a, .int k' b => match sameK k k' with
    | true => K (.bool (decide (b < a)))
    | false => False
  | .geq, .int k a, .int k' b => match sameK k k' with
    | true => K (.bool (decide (b ≤ a)))
    | false => False
  | .eql, .int k a, .int k' b => match sameK k k' with
    | true => K (.bool (decide (a = b)))
    | false => False
  | .neq, .int k a, .int k' b => match sameK k k' with
    | true => K (.bool (!decide (a = b)))
    | false => False
  | .eql, .string a, .string b => K (.bool (decide (a = b)))
  | .neq, .string a, .string b => K (.bool (!decide (a = b)))
  | .lss, .string a, .string b => K (.bool (Op.bytesLess a.toList b.toList))
  | .add, .string a, .string b => a.size + b.size ≤ 9223372036854775807 ∧ K (.string (a ++ b))
  | op, u, v => ∃ r, pureRun P (do eqGuard op T x y u v; binOp op T u v : Sem Value) = some r ∧ plainV r = true ∧ K r
theorem binK_spec {P : Program} {op : BinOp} {T : TypeId} {x y : Operand} {u v : Value} {K : Value → Prop} (h : binK P op T x y u v K) : ∃ r, pureRun P (do eqGuard op T x y u v; binOp op T u v : Sem Value) = some r ∧ plainV r = true ∧ K r := by
  unfold binK at h
  split at h
  · split at h
    · rename_i hs; cases sameK_spec hs; exact ⟨_, pr_lss, rfl, h⟩
    · exact h.elim
  · split at h
    · rename_i hs; cases sameK_spec hs; exact ⟨_, pr_leq, rfl, h⟩
    · exact h.elim
  · split at h
    · rename_i hs; cases sameK_spec hs; exact ⟨_, pr_gtr, rfl, h⟩
    · exact h.elim
  · split at h
    · rename_i hs; cases sameK_spec hs; exact ⟨_, pr_geq, rfl, h⟩
    · exact h.elim
  · split at h
    · rename_i hs; cases sameK_spec hs; exact ⟨_, pr_eql, rfl, h⟩
    · exact h.elim
  · split at h
    · rename_i hs; cases sameK_spec hs; exact ⟨_, pr_neq, rfl, h⟩
    · exact h.elim
  · exact ⟨_, pr_eqs, rfl, h⟩
  · exact ⟨_, pr_nes, rfl, h⟩
  · exact ⟨_, pr_lts, rfl, h⟩
  · exact ⟨_, pr_cat h.1, rfl, h.2⟩
  · exact h
def tokK (d : Nat) : List C → (List C → Prop) → Prop
  | [], K => K []
  | .d x :: l, K => tokK d l fun l' => K (.d x :: l')
  | .own _ e xs :: l, K => tokK d l fun l' => K (.own d e xs :: l')
  | .nil :: l, K => tokK d l fun l' => K (.nil :: l')
theorem tokK_spec {d : Nat} : ∀ {l : List C} {K : List C → Prop}, tokK d l K → K (l.map (setTok d))
  | [], _, h => h
  | .d x :: l, K, h => tokK_spec (l := l) (K := fun l' => K (.d x :: l')) h
  | .own _ e xs :: l, K, h => tokK_spec (l := l) (K := fun l' => K (.own d e xs :: l')) h
  | .nil :: l, K, h => tokK_spec (l := l) (K := fun l' => K (.nil :: l')) h
def resK (d : Nat) (res : List C) (K : S → Prop) : Prop := tokK d res fun l => match l with
  | [c] => K (.c c)
  | l => K (.tup l)
theorem resK_spec {d : Nat} {res : List C} {K : S → Prop} (h : resK d res K) : K (resS (res.map (setTok d))) := by
  have := tokK_spec h
  cases hl : res.map (setTok d) with
  | nil => rw [hl] at this; exact this
  | cons c l =>
    rw [hl] at this
    cases l with
    | nil => exact this
    | cons c' l => exact this
def fillK (t : Tr) (ps : List (Nat × Nat)) : List (Nat × Operand) → List D → (List D → Prop) → Prop
  | [], acc, K => K acc
  | (i, x) :: l, acc, K => match ps[i]? with
    | some (off, sz) => dK t x fun d => cellsK d fun cs => match Nat.beq cs.length sz with
      | true => patchK acc off cs fun acc' => fillK t ps l acc' K
      | false => False
    | none => False
theorem fillK_spec {t : Tr} {h : Hp} {ps : List (Nat × Nat)} : ∀ {l : List (Nat × Operand)} {acc : List D} {K : List D → Prop}, fillK t ps l acc K → ∃ ds cs, vparts (envT t h) l = some ds ∧ fillD (ps.toArray[·]?) acc ds = some cs ∧ K cs
  | [], acc, K, hk => ⟨[], acc, rfl, rfl, hk⟩
  | (i, x) :: l, acc, K, hk => by
    simp only [fillK] at hk
    split at hk
    · rename_i off sz hp
      obtain ⟨d, h1, h2⟩ := dK_spec (h := h) hk
      have h3 := cellsK_spec h2
      split at h3
      · rename_i hl
        have hl := Nat.eq_of_beq_eq_true hl
        obtain ⟨h4, h5⟩ := patchK_spec h3
        obtain ⟨ds, cs, h6, h7, h8⟩ := fillK_spec (h := h) h5
        refine ⟨(i, d) :: ds, cs, by simp [vparts, h1, h6], ?_, h8⟩
        unfold fillD
        simp only [List.getElem?_toArray, hp]
        rw [if_pos ⟨hl, h4⟩]
        simpa using h7
      · exact h3.elim
    · exact hk.elim
def denseK (t : Tr) (sz : Nat) : Nat → List (Nat × Operand) → (List D → Prop) → Prop
  | _, [], K => K []
  | k, (i, x) :: l, K => match Nat.beq i k with
    | true => dK t x fun d => cellsK d fun cs => match Nat.beq cs.length sz with
      | true => denseK t sz (Nat.succ k) l fun xs => K (d :: xs)
      | false => False
    | false => False
theorem denseK_spec {t : Tr} {h : Hp} {sz : Nat} : ∀ {k : Nat} {l : List (Nat × Operand)} {K : List D → Prop}, denseK t sz k l K → ∃ xs, vparts (envT t h) l = some (denseFrom k xs) ∧ xs.length = l.length ∧ (∀ x ∈ xs, x.cells.length = sz) ∧ K xs
  | k, [], K, hk => ⟨[], rfl, rfl, by simp, hk⟩
  | k, (i, x) :: l, K, hk => by
    simp only [denseK] at hk
    split at hk
    · rename_i hi
      have hi := Nat.eq_of_beq_eq_true hi
      subst hi
      obtain ⟨d, h1, h2⟩ := dK_spec (h := h) hk
      have h3 := cellsK_spec h2
      split at h3
      · rename_i hl
        have hl := Nat.eq_of_beq_eq_true hl
        obtain ⟨xs, h4, h5, h6, h7⟩ := denseK_spec (h := h) h3
        refine ⟨d :: xs, by simp [vparts, h1, h4, denseFrom], by simp [h5], ?_, h7⟩
        intro y hy
        rcases List.mem_cons.1 hy with rfl | hy
        · exact hl
        · exact h6 y hy
      · exact h3.elim
    · exact hk.elim
theorem denseFrom_map : ∀ (k : Nat) (xs : List D), (denseFrom k xs).map (·.2) = xs
  | _, [] => rfl
  | k, x :: xs => by simp [denseFrom, denseFrom_map]
theorem denseFrom_len : ∀ (k : Nat) (xs : List D), (denseFrom k xs).length = xs.length
  | _, [] => rfl
  | k, x :: xs => by simp [denseFrom, denseFrom_len]
def bndK (t : Tr) (x : Option Operand) (dflt : Nat) (K : Nat → Prop) : Prop := match x with
  | none => K dflt
  | some x => vK t x fun v => match v with
    | .int _ i => ∃ n : Nat, i = (n : Int) ∧ K n
    | _ => False
theorem bndK_spec {t : Tr} {h : Hp} {x : Option Operand} {dflt : Nat} {K : Nat → Prop} (hk : bndK t x dflt K) : ∃ n, bnd (envT t h) x dflt = some n ∧ K n := by
  cases x with
  | none => exact ⟨dflt, rfl, hk⟩
  | some x =>
    obtain ⟨v, h1, h2, h3⟩ := vK_spec (h := h) hk
    cases v with
    | int k i =>
      obtain ⟨n, rfl, h4⟩ := h3
      refine ⟨n, ?_, h4⟩
      simp [bnd, h1]
    | _ => exact h3.elim
end Go.Vm
end
section
namespace Go.Vm
open Go.RowKit
def FieldOk (P : Program) (T : TypeId) (f : Nat) (off : Nat) (sh : Bool × Nat) : Prop := ∃ fs g, P.underlying T = some (.struct fs) ∧ fs[f]? = some g ∧ tshape P g.type = some sh ∧ g.offset = off
theorem y_fieldv {P : Program} {N : Nat} {env : Env} {o : Oper} {T : TypeId} {x : Operand} {f off : Nat} {cs : List D} {sh : Bool × Nat} {r : D} (hop : o.op = .field T x f) (hx : vd env x = some (.agg cs)) (hf : FieldOk P T f off sh) (hp : partD sh cs off = some r) {d : Nat} (hdst : o.dst = some d) (hd : d < N) : Yield P N o env (.c (.d r)) := by
  refine yield_of hdst hd fun env' he base w0 ro0 ro blk a w hsim => ?_
  have h1 := hsim.getD (x := x) (by rw [he.getD (by simp [hop, Op.operands])]; exact hx)
  obtain ⟨fs, g, hu, hg, hsh, rfl⟩ := hf
  obtain ⟨ag, n⟩ := sh
  obtain ⟨i, dd, k1, k2, k3, k4⟩ := tshape_parts hsh
  have hagg := run_isAgg (w := w) k2
  rw [k3] at hagg
  generalize hv : a.eval x = v at h1
  cases h1 with
  | agg hl h1 h =>
    rename_i arr
    cases ag with
    | true =>
      simp only [partD, if_true] at hp
      split at hp
      · rename_i hle
        injection hp with hp; subst hp
        have hr : Reps ro w arr.toList cs := ⟨by simpa using hl, h1, h⟩
        have hk := (hr.drop g.offset).take n
        refine ⟨.agg (arr.extract g.offset (g.offset + n)), w, ro, ?_, Grow.refl hsim.new, .agg (by simp; omega) ?_ ?_⟩
        · simp [execOp, hop, hv, Instr.field, run_underlying hu, hg, asAgg, part, Sem.run_bind, hagg, sizeOf, typeInfo, k1, k4]
        · intro u hu
          exact h1 u (by
            have : u ∈ (arr.toList.drop g.offset).take n := by simpa [Array.toList_extract, List.extract_eq_take_drop] using hu
            exact List.mem_of_mem_drop (List.mem_of_mem_take this))
        · intro j u c hu hc
          refine hk.2.2 j u c ?_ hc
          simpa [Array.toList_extract, List.extract_eq_take_drop] using hu
      · cases hp
    | false =>
      simp only [partD, Bool.false_eq_true, if_false] at hp
      have hlt := (List.getElem?_eq_some_iff.1 hp).1
      have hlt' : g.offset < arr.size := by omega
      have hu' : arr[g.offset]? = some arr[g.offset] := Array.getElem?_eq_getElem hlt'
      refine ⟨arr[g.offset], w, ro, ?_, Grow.refl hsim.new, h g.offset _ _ (by simp [hlt']) hp⟩
      simp [execOp, hop, hv, Instr.field, run_underlying hu, hg, asAgg, part, Sem.run_bind, hagg, hu']
def uloadK (sh : Bool × Nat) (cs : List D) (off : Nat) (K : S → Prop) : Prop := match sh.1 with
  | false => nthK cs off fun d => match d with
    | .rr a b c => K (.sref a b c)
    | .sc v => K (.c (.d (.sc v)))
    | .row xs => K (.c (.d (.row xs)))
    | _ => False
  | true => partK sh cs off fun r => match List.all (D.cells r) plainD with
    | true => K (.c (.d r))
    | false => False
theorem uloadK_spec {sh : Bool × Nat} {cs : List D} {off : Nat} {K : S → Prop} (h : uloadK sh cs off K) : (∃ r, partD sh cs off = some r ∧ (r.cells).all plainD = true ∧ K (.c (.d r))) ∨ ∃ a b c, sh.1 = false ∧ cs[off]? = some (.rr a b c) ∧ K (.sref a b c) := by
  obtain ⟨ag, n⟩ := sh
  cases ag with
  | false =>
    simp only [uloadK] at h
    obtain ⟨d, h1, h2⟩ := nthK_spec h
    cases d with
    | rr a b c => exact .inr ⟨a, b, c, rfl, h1, h2⟩
    | sc v => exact .inl ⟨_, by simpa [partD] using h1, rfl, h2⟩
    | row xs => exact .inl ⟨_, by simpa [partD] using h1, rfl, h2⟩
    | _ => exact h2.elim
  | true =>
    simp only [uloadK] at h
    obtain ⟨r, h1, h2⟩ := partK_spec h
    split at h2
    · rename_i hp; exact .inl ⟨r, h1, hp, h2⟩
    · exact h2.elim
def yK (P : Program) (tt : TT) (N d : Nat) (o : Oper) (t : Tr) (h : Hp) (K : S → Prop) : Prop := match o.op with
  | .move x => ovK t x K
  | .assign x => ovK t x K
  | .pick x y z => vK t x fun v => match v with
    | .bool true => ovK t y K
    | .bool false => ovK t z K
    | _ => False
  | .binOp op T x y T' => dK t x fun du => dK t y fun dv => match du, dv with
    | .sc u, .sc v => binK P op T x y u v fun r => K (.c (.d (.sc r)))
    | .ptr _ _, dv => match op, y with
      | .eql, .const (.pointer none) => (∃ e, P.underlying T = some (.pointer e)) ∧ K (.c (.d (.sc (.bool false))))
      | .neq, .const (.pointer none) => (∃ e, P.underlying T = some (.pointer e)) ∧ K (.c (.d (.sc (.bool true))))
      | _, _ => False
    | .mp _, dv => match op, y with
      | .eql, .const (.map none) => (∃ k e, P.underlying T = some (.map k e)) ∧ K (.c (.d (.sc (.bool false))))
      | .neq, .const (.map none) => (∃ k e, P.underlying T = some (.map k e)) ∧ K (.c (.d (.sc (.bool true))))
      | _, _ => False
    | du, dv => ∃ u v r, (conc du = some u ∧ conc dv = some v) ∧ (∀ w, (do eqGuard op T x y u v; binOp op T u v : Sem Value).run P w = .ok r w) ∧ plainV r = true ∧ K (.c (.d (.sc r)))
  | .unOp op T x => vK t x fun u => match op, u with
    | .not, .bool b => K (.c (.d (.sc (.bool (!b)))))
    | op, u => ∃ r, pureRun P (Op.unary op u) = some r ∧ plainV r = true ∧ K (.c (.d (.sc r)))
  | .convert T T' x => vK t x fun u => ∃ r, pureRun P (convert T T' u) = some r ∧ plainV r = true ∧ K (.c (.d (.sc r)))
  | .load T x => match tt.get T with
    | some i => ovK t x fun s => match s with
      | .ref u off => match t.get u with
        | .box cs => match Nat.ble 1000000 u with
          | true => False
          | false => partK (shI i) cs off fun r => K (.c (.d r))
        | .ubox cs => match Nat.ble 1000000 u with
          | true => False
          | false => uloadK (shI i) cs off K
        | _ => False
      | .at_ cs off => partK (shI i) cs off fun r => K (.c (.d r))
      | .c (.d (.ptr id off)) => ∃ cs, (NAM ≤ id ∧ h id = .obj cs) ∧ partK (shI i) cs off fun r => K (.c (.d r))
      | _ => False
    | none => False
  | .fieldAddr T x f => match tt.get T with
    | some (.agg ps z) => match ps[f]? with
      | some (k, sz) => match Nat.beq sz 0 with
        | true => False
        | false => ovK t x fun s => match s with
          | .ref u off => K (.ref u (off + k))
          | .at_ cs off => K (.at_ cs (off + k))
          | .c (.d (.ptr id off)) => K (.c (.d (.ptr id (off + k))))
          | _ => False
      | none => False
    | _ => False
  | .indexAddr T x ix => match tt.get T with
    | some (.slice e sz bytes) => dK t x fun dx => match dx with
      | .row xs => vK t ix fun v => match v with
        | .int _ i => ∃ (j : Nat) (y : D), i = (j : Int) ∧ xs[j]? = some y ∧ cellsK y fun cs => match Nat.beq cs.length sz with
          | true => K (.at_ cs 0)
          | false => False
        | _ => False
      | _ => False
    | _ => False
  | .index T x ix => match tt.get T with
    | some .str => vK t x fun u => match u with
      | .string s => vK t ix fun v => match v with
        | .int _ i => ∃ (j : Nat) (b : UInt8), i = (j : Int) ∧ s[j]? = some b ∧ K (.c (.d (.sc (.int .u8 b.toNat))))
        | _ => False
      | _ => False
    | _ => False
  | .extract x i => ovK t x fun s => match s with
    | .tup cs => match cs[i]? with
      | some c => sK (.c c) K
      | none => False
    | _ => False
  | .build T parts => match tt.get T with
    | some (.agg ps z) => fillK t ps parts.toList z fun cs => K (.c (.d (.agg cs)))
    | _ => False
  | .buildSlice T len parts => match tt.get T with
    | some (.slice e sz bytes) => match Nat.beq parts.toList.length len, Nat.ble (Nat.mul len sz) 16777216 with
      | true, true => denseK t sz 0 parts.toList fun xs => K (.c (.own d e xs))
      | _, _ => False
    | _ => False
  | .makeSlice T l c => match tt.get T with
    | some (.slice e sz bytes) => vK t l fun u => match u with
      | .int _ 0 => vK t c fun v => match v with
        | .int _ i => ∃ n : Nat, i = (n : Int) ∧ (bytes * n ≤ 281474976710656 ∧ n ≤ maxLen) ∧ K (.c (.own d e []))
        | _ => False
      | _ => False
    | _ => False
  | .slice T x lo hi none => match tt.get T with
    | some (.slice e sz bytes) => dK t x fun dx => match dx with
      | .row xs => bndK t lo 0 fun l => bndK t hi xs.length fun hh => (∀ x ∈ xs, x.cells.length = sz) ∧ l ≤ hh ∧ hh ≤ xs.length ∧ ∃ ys, (xs.take hh).drop l = ys ∧ K (.c (.d (.row ys)))
      | _ => False
    | some .str => vK t x fun u => match u with
      | .string s => bndK t lo 0 fun l => bndK t hi s.size fun hh => l ≤ hh ∧ hh ≤ s.size ∧ ∃ s', s.extract l hh = s' ∧ K (.c (.d (.sc (.string s'))))
      | _ => False
    | _ => False
  | .call c => match c.callee with
    | .builtin .len => match c.args.toList, c.argTypes.toList with
      | [x], [T] => match tt.get T with
        | some (.slice e sz bytes) => dK t x fun dx => match dx with
          | .row xs => ∃ n : Nat, xs.length = n ∧ K (.c (.d (.sc (.int .i64 n))))
          | _ => False
        | some .str => vK t x fun u => match u with
          | .string s => ∃ n : Nat, s.size = n ∧ K (.c (.d (.sc (.int .i64 n))))
          | _ => False
        | _ => False
      | _, _ => False
    | .value (.func f) => argsK t c.args.toList fun ds => ∃ res, (enters P f = true ∧ Contract P f ds res) ∧ resK d res K
    | _ => ∃ s, Yield P N o (envT t h) s ∧ sK s K
  | .nilCheck x => ovK t x fun s => match s with
    | .c (.d (.ptr id off)) => K (.c (.d (.ptr id off)))
    | _ => False
  | .field T x f => dK t x fun d => match d with
    | .agg cs => ∃ off sh, FieldOk P T f off sh ∧ partK sh cs off fun r => K (.c (.d r))
    | _ => False
  | _ => False
theorem yK_sound {P : Program} {tt : TT} (htt : TTok P tt) {N d : Nat} {o : Oper} {t : Tr} {h : Hp} {K : S → Prop} (hdst : o.dst = some d) (hd : d < N) (hk : yK P tt N d o t h K) : ∃ s, Yield P N o (envT t h) s ∧ K s := by
  unfold yK at hk
  split at hk
  · rename_i x hop; exact ⟨_, y_move hop rfl hdst hd, ovK_spec (h := h) hk⟩
  · rename_i x hop; exact ⟨_, y_assign hop rfl hdst hd, ovK_spec (h := h) hk⟩
  · rename_i x y z hop
    obtain ⟨v, h1, _, h2⟩ := vK_spec (h := h) hk
    split at h2
    · exact ⟨_, y_pick hop h1 rfl hdst hd, ovK_spec (h := h) h2⟩
    · exact ⟨_, y_pick hop h1 rfl hdst hd, ovK_spec (h := h) h2⟩
    · exact h2.elim
  · rename_i op T x y T' hop
    obtain ⟨du, h1, h2⟩ := dK_spec (h := h) hk
    obtain ⟨dv, h3, h4⟩ := dK_spec (h := h) h2
    split at h4
    · obtain ⟨r, h5, h6, h7⟩ := binK_spec h4
      exact ⟨_, y_binop hop (by unfold vc1; rw [h1]; rfl) (by unfold vc1; rw [h3]; rfl) h5 h6 hdst hd, h7⟩
    · split at h4
      · obtain ⟨⟨e, h5⟩, h6⟩ := h4; exact ⟨_, y_eqptr (neg := false) hop h1 h5 hdst hd, h6⟩
      · obtain ⟨⟨e, h5⟩, h6⟩ := h4; exact ⟨_, y_eqptr (neg := true) hop h1 h5 hdst hd, h6⟩
      · exact h4.elim
    · split at h4
      · obtain ⟨⟨k, e, h5⟩, h6⟩ := h4; exact ⟨_, y_eqmap (neg := false) hop h1 h5 hdst hd, h6⟩
      · obtain ⟨⟨k, e, h5⟩, h6⟩ := h4; exact ⟨_, y_eqmap (neg := true) hop h1 h5 hdst hd, h6⟩
      · exact h4.elim
    · obtain ⟨u, v, r, ⟨h5, h6⟩, h7, h8, h9⟩ := h4
      exact ⟨_, y_binW hop (by unfold vc1; rw [h1]; exact h5) (by unfold vc1; rw [h3]; exact h6) h7 h8 hdst hd, h9⟩
  · rename_i op T x hop
    obtain ⟨u, _, h1, h2⟩ := vK_spec (h := h) hk
    split at h2
    · exact ⟨_, y_unop hop h1 rfl rfl hdst hd, h2⟩
    · obtain ⟨r, h5, h6, h7⟩ := h2
      exact ⟨_, y_unop hop h1 h5 h6 hdst hd, h7⟩
  · rename_i T T' x hop
    obtain ⟨u, _, h1, r, h5, h6, h7⟩ := vK_spec (h := h) hk
    exact ⟨_, y_convert hop h1 h5 h6 hdst hd, h7⟩
  · rename_i T x hop
    split at hk
    · rename_i i hi
      have hsh := shI_ok (htt _ _ hi)
      have hk := ovK_spec (h := h) hk
      split at hk
      · rename_i u off hx
        split at hk
        · rename_i cs hcs
          split at hk
          · exact hk.elim
          · rename_i hb
            obtain ⟨r, h1, h2⟩ := partK_spec hk
            exact ⟨_, y_load_ref hop hx (by rw [envT_lt (ble_lt hb)]; exact hcs) hsh h1 hdst hd, h2⟩
        · rename_i cs hcs
          split at hk
          · exact hk.elim
          · rename_i hb
            rcases uloadK_spec hk with ⟨r, h1, h2, h3⟩ | ⟨q1, q2, q3, h0, h1, h2⟩
            · exact ⟨_, y_loadU hop hx (by rw [envT_lt (ble_lt hb)]; exact hcs) hsh h1 h2 hdst hd, h3⟩
            · have hsh' : tshape P T = some (false, (shI i).2) := by rw [hsh]; cases hq : shI i; rw [hq] at h0; simp at h0; rw [h0]
              exact ⟨_, y_loadR hop hx (by rw [envT_lt (ble_lt hb)]; exact hcs) hsh' h1 hdst hd, h2⟩
        · exact hk.elim
      · rename_i cs off hx
        obtain ⟨r, h1, h2⟩ := partK_spec hk
        exact ⟨_, y_load_at hop hx hsh h1 hdst hd, h2⟩
      · rename_i id off hx
        obtain ⟨cs, ⟨hb, hid⟩, hk⟩ := hk
        obtain ⟨r, h1, h2⟩ := partK_spec hk
        exact ⟨_, y_load_ptr hop (by unfold vd; rw [hx]; rfl) (by rw [envT_at hb, hid]; rfl) (namb hb) hsh h1 hdst hd, h2⟩
      · exact hk.elim
    · exact hk.elim
  · rename_i T x f hop
    split at hk
    · rename_i ps z hi
      split at hk
      · rename_i k sz hps
        split at hk
        · exact hk.elim
        · rename_i h0
          have hf := field_ok (htt _ _ hi).2.1 hps (fun e => by rw [e] at h0; cases h0)
          have hk := ovK_spec (h := h) hk
          split at hk
          · rename_i u off hx; exact ⟨_, y_field_ref hop hx hf hdst hd, hk⟩
          · rename_i cs off hx; exact ⟨_, y_field_at hop hx hf hdst hd, hk⟩
          · rename_i id off hx; exact ⟨_, y_field_ptr hop (by unfold vd; rw [hx]; rfl) hf hdst hd, hk⟩
          · exact hk.elim
      · exact hk.elim
    · exact hk.elim
  · rename_i T x ix hop
    split at hk
    · rename_i e sz bytes hi
      obtain ⟨dx, h1, h2⟩ := dK_spec (h := h) hk
      split at h2
      · rename_i xs
        obtain ⟨v, h3, _, h4⟩ := vK_spec (h := h) h2
        split at h4
        · rename_i k i
          obtain ⟨j, y, rfl, h5, h6⟩ := h4
          have h7 := cellsK_spec h6
          split at h7
          · rename_i hl
            have hl := Nat.eq_of_beq_eq_true hl
            obtain ⟨ii, zz, q1, q2, q3, q4, q5, q6, q7, q8⟩ := elemFull_parts (htt _ _ hi).2.1
            exact ⟨_, y_index hop h1 h3 (by unfold elemSize; rw [q1]; simp [q2, q4]) h5 hl hdst hd, h7⟩
          · exact h7.elim
        · exact h4.elim
      · exact h2.elim
    · exact hk.elim
  · rename_i T x ix hop
    split at hk
    · rename_i hi
      obtain ⟨u, h1, _, h2⟩ := vK_spec (h := h) hk
      split at h2
      · rename_i s
        obtain ⟨v, h3, _, h4⟩ := vK_spec (h := h) h2
        split at h4
        · rename_i k i
          obtain ⟨j, b, rfl, h5, h6⟩ := h4
          exact ⟨_, y_char hop h1 h3 (htt _ _ hi).2.1 h5 hdst hd, h6⟩
        · exact h4.elim
      · exact h2.elim
    · exact hk.elim
  · rename_i x i hop
    have hk := ovK_spec (h := h) hk
    split at hk
    · rename_i cs hx
      split at hk
      · rename_i c hc; exact ⟨_, y_extract hop hx hc hdst hd, sK_spec hk⟩
      · exact hk.elim
    · exact hk.elim
  · rename_i T parts hop
    split at hk
    · rename_i ps z hi
      obtain ⟨ds, cs, h1, h2, h3⟩ := fillK_spec (h := h) hk
      exact ⟨_, y_build hop h1 (by rw [built_ok (htt _ _ hi).2.1 (htt _ _ hi).2.2]; exact h2) hdst hd, h3⟩
    · exact hk.elim
  · rename_i T len parts hop
    split at hk
    · rename_i e sz bytes hi
      split at hk
      · rename_i hl hm
        have hl := Nat.eq_of_beq_eq_true hl
        have hm := Nat.le_of_ble_eq_true hm
        obtain ⟨xs, h1, h2, h3, h4⟩ := denseK_spec (h := h) hk
        have := y_lit (d := d) (N := N) hop (htt _ _ hi).2.1 h1 (by rw [denseFrom_map]) (by rw [denseFrom_len, h2, hl]) (by rw [denseFrom_map]; exact h3) (htt _ _ hi).2.2.1 hm hdst hd
        rw [denseFrom_map] at this
        exact ⟨_, this, h4⟩
      · exact hk.elim
    · exact hk.elim
  · rename_i T l c hop
    split at hk
    · rename_i e sz bytes hi
      obtain ⟨u, h1, _, h2⟩ := vK_spec (h := h) hk
      split at h2
      · obtain ⟨v, h3, _, h4⟩ := vK_spec (h := h) h2
        split at h4
        · obtain ⟨n, rfl, h5, h6⟩ := h4
          exact ⟨_, y_make hop (htt _ _ hi).2.1 h1 h3 h5.1 h5.2 hdst hd, h6⟩
        · exact h4.elim
      · exact h2.elim
    · exact hk.elim
  · rename_i T x lo hi hop
    split at hk
    · rename_i e sz bytes hti
      obtain ⟨dx, h1, h2⟩ := dK_spec (h := h) hk
      split at h2
      · rename_i xs
        obtain ⟨l, h3, h4⟩ := bndK_spec (h := h) h2
        obtain ⟨hh, h5, h6, h7, h8, ys, rfl, h9⟩ := bndK_spec (h := h) h4
        obtain ⟨ii, zz, q1, q2, q3, q4, q5, q6, q7, q8⟩ := elemFull_parts (htt _ _ hti).2.1
        exact ⟨_, y_subrow hop h1 (by unfold elemSize; rw [q1]; simp [q2, q4]) h6 h3 h5 h7 h8 hdst hd, h9⟩
      · exact h2.elim
    · rename_i hti
      obtain ⟨u, h1, _, h2⟩ := vK_spec (h := h) hk
      split at h2
      · rename_i s
        obtain ⟨l, h3, h4⟩ := bndK_spec (h := h) h2
        obtain ⟨hh, h5, h7, h8, ys, rfl, h9⟩ := bndK_spec (h := h) h4
        exact ⟨_, y_substr hop h1 (htt _ _ hti).2.1 h3 h5 h7 h8 hdst hd, h9⟩
      · exact h2.elim
    · exact hk.elim
  · rename_i c hop
    split at hk
    · rename_i hcal
      split at hk
      · rename_i x T hx hT
        obtain ⟨callee, args, argTypes⟩ := c
        obtain rfl : args = #[x] := Array.ext' (by simpa using hx)
        obtain rfl : argTypes = #[T] := Array.ext' (by simpa using hT)
        simp only at hcal
        subst hcal
        split at hk
        · rename_i e sz bytes hti
          obtain ⟨dx, h1, h2⟩ := dK_spec (h := h) hk
          split at h2
          · obtain ⟨n, rfl, h3⟩ := h2
            obtain ⟨ii, zz, q1, q2, q3, q4, q5, q6, q7, q8⟩ := elemFull_parts (htt _ _ hti).2.1
            exact ⟨_, y_len (ts := #[]) (sz := sz) hop h1 (by unfold elemSize; rw [q1]; simp [q2, q4]) hdst hd, h3⟩
          · exact h2.elim
        · rename_i hti
          obtain ⟨u, h1, _, h2⟩ := vK_spec (h := h) hk
          split at h2
          · obtain ⟨n, rfl, h3⟩ := h2
            exact ⟨_, y_lens hop h1 (htt _ _ hti).2.1 hdst hd, h3⟩
          · exact h2.elim
        · exact hk.elim
      · exact hk.elim
    · rename_i f hcal
      obtain ⟨callee, args, argTypes⟩ := c
      simp only at hcal
      subst hcal
      obtain ⟨ds, h1, res, ⟨h2, h3⟩, h4⟩ := argsK_spec (h := h) hk
      exact ⟨_, y_call hop h2 h1 h3 hdst hd, resK_spec h4⟩
    · obtain ⟨s, h1, h2⟩ := hk
      exact ⟨s, h1, sK_spec h2⟩
  · rename_i x hop
    have hk := ovK_spec (h := h) hk
    split at hk
    · rename_i id off hx
      exact ⟨_, y_nilCheck hop (by unfold vd; rw [hx]; rfl) hdst hd, hk⟩
    · exact hk.elim
  · rename_i T x f hop
    obtain ⟨dx, h1, h2⟩ := dK_spec (h := h) hk
    split at h2
    · obtain ⟨off, sh, hf, h3⟩ := h2
      obtain ⟨r, h4, h5⟩ := partK_spec h3
      exact ⟨_, y_fieldv hop h1 hf h4 hdst hd, h5⟩
    · exact h2.elim
  · exact hk.elim
end Go.Vm
end
section
namespace Go.Vm
open Go.RowKit
def memN (n : Nat) : List Nat → Bool
  | [] => false
  | m :: l => match Nat.beq n m with
    | true => true
    | false => memN n l
def hset (h : Hp) (n : Nat) (s : S) : Hp := fun u => if u = n then s else h u
def unrefK (d : Nat) (s : S) (K : S → Prop) : Prop := match s with
  | .ref u off => match Nat.beq u d with
    | true => K .junk
    | false => K (.ref u off)
  | s => sK s K
theorem unrefK_spec {d : Nat} (s : S) (K : S → Prop) (h : unrefK d s K) : K (unref d s) := by
  cases s with
  | ref u off =>
    simp only [unrefK] at h
    show K (if u = d then .junk else .ref u off)
    split at h
    · rename_i hb; rw [if_pos (Nat.eq_of_beq_eq_true hb)]; exact h
    · rename_i hb; rw [if_neg (fun e => by rw [e, Nat.beq_refl] at hb; cases hb)]; exact h
  | c x => cases x <;> exact h
  | _ => exact h
def demCK (τ : Nat) : List C → (List C → Prop) → Prop
  | [], K => K []
  | .d x :: l, K => demCK τ l fun l' => K (.d x :: l')
  | .own τ' e xs :: l, K => match Nat.beq τ' τ with
    | true => demCK τ l fun l' => K (.d (.row xs) :: l')
    | false => demCK τ l fun l' => K (.own τ' e xs :: l')
  | .nil :: l, K => demCK τ l fun l' => K (.nil :: l')
theorem demCK_spec {τ : Nat} : ∀ {l : List C} {K : List C → Prop}, demCK τ l K → K (l.map (demoteC τ))
  | [], _, h => h
  | .d x :: l, K, h => demCK_spec (l := l) (K := fun l' => K (.d x :: l')) h
  | .own τ' e xs :: l, K, h => by
    simp only [demCK] at h
    simp only [List.map_cons, demoteC]
    split at h
    · rename_i hb; rw [if_pos (Nat.eq_of_beq_eq_true hb)]; exact demCK_spec (l := l) (K := fun l' => K (_ :: l')) h
    · rename_i hb; rw [if_neg (fun e => by rw [e, Nat.beq_refl] at hb; cases hb)]; exact demCK_spec (l := l) (K := fun l' => K (_ :: l')) h
  | .nil :: l, K, h => demCK_spec (l := l) (K := fun l' => K (.nil :: l')) h
def demK (τ : Nat) (s : S) (K : S → Prop) : Prop := match s with
  | .c (.own τ' e xs) => match Nat.beq τ' τ with
    | true => K (.c (.d (.row xs)))
    | false => K (.c (.own τ' e xs))
  | .tup cs => demCK τ cs fun cs' => K (.tup cs')
  | s => sK s K
theorem demK_spec {τ : Nat} (s : S) (K : S → Prop) (h : demK τ s K) : K (demote τ s) := by
  cases s with
  | c x =>
    cases x with
    | own τ' e xs =>
      simp only [demK] at h
      unfold demote demoteC
      simp only
      split at h
      · rename_i hb; rw [if_pos (Nat.eq_of_beq_eq_true hb)]; exact h
      · rename_i hb; rw [if_neg (fun e => by rw [e, Nat.beq_refl] at hb; cases hb)]; exact h
    | _ => exact h
  | tup cs => exact demCK_spec h
  | _ => exact h
theorem nameS_unref {d : Nat} (s : S) : unref d (nameS s) = nameS s := by cases s <;> rfl
theorem nameS_demote {d : Nat} (s : S) : demote d (nameS s) = nameS s := by cases s <;> rfl
theorem envT_box {t t1 t2 : Tr} {h : Hp} {d : Nat} {cs : List D} (hd : d < NAM) (h1 : ∀ u, t1.get u = unref d (t.get u)) (h2 : ∀ u, t2.get u = if u = d then .box cs else t1.get u) : envT t2 h = boxEnv (envT t h) d cs := by
  funext u
  simp only [envT, boxEnv, h2, h1]
  by_cases e : u = d
  · subst e; simp [hd]
  · simp only [if_neg e]
    split
    · rfl
    · exact (nameS_unref _).symm
theorem envT_spend {t t1 t2 : Tr} {h : Hp} {d τ : Nat} {s : S} (hd : d < NAM) (h1 : ∀ u, t1.get u = demote τ (t.get u)) (h2 : ∀ u, t2.get u = if u = d then s else t1.get u) : envT t2 h = upd (spend (envT t h) τ) (some d) s := by
  funext u
  simp only [envT, spend, upd, h2, h1]
  by_cases e : u = d
  · subst e; simp [hd]
  · simp only [if_neg e]
    split
    · rfl
    · exact (nameS_demote _).symm
theorem blb_lt {u : Nat} (h : Nat.ble 500000 u = false) : u < BIG := by
  rcases Nat.lt_or_ge u 500000 with h1 | h1
  · exact h1
  · rw [Nat.ble_eq_true_of_le h1] at h; cases h
def appK (tt : TT) (d : Nat) (c : Call) (t : Tr) (K : Tr → Prop) : Prop := match c.args.toList, c.argTypes.toList with
  | [x, y], [T, T'] => match Nat.beq T T', tt.get T with
    | true, some (.slice e sz bytes) => ovK t x fun s => dK t y fun dy => match dy with
      | .row ys => match s with
        | .c (.own τ e' xs) => match Nat.beq e' e with
          | true => ((∀ y ∈ ys, y.cells.length = sz) ∧ xs.length + ys.length ≤ maxLen ∧ (xs.length + ys.length) * bytes ≤ 140737488355328) ∧ ∃ zs, xs ++ ys = zs ∧ mapK (demK τ) t fun t => setK 20 t d (.c (.own τ e zs)) fun t => K t
          | false => False
        | .c .nil => ((∀ y ∈ ys, y.cells.length = sz) ∧ ys.length ≤ maxLen ∧ ys.length * bytes ≤ 140737488355328) ∧ setK 20 t d (.c (.own d e ys)) fun t => K t
        | _ => False
      | _ => False
    | false, some (.slice e sz bytes) => match Nat.beq sz 1, tt.get T' with
      | true, some .str => ovK t x fun s => vK t y fun v => match s, v with
        | .c (.own τ e' xs), .string y => match Nat.beq e' e with
          | true => (xs.length + y.size ≤ maxLen ∧ (xs.length + y.size) * bytes ≤ 140737488355328) ∧ ∃ zs, xs ++ bytesD y = zs ∧ mapK (demK τ) t fun t => setK 20 t d (.c (.own τ e zs)) fun t => K t
          | false => False
        | _, _ => False
      | _, _ => False
    | _, _ => False
  | _, _ => False
def stFb (x : Operand) (fb : List Nat) : Bool := match x with
  | .tmp u => memN (Nat.add u 9000000) fb
  | _ => false
def xstep (P : Program) (tt : TT) (N : Nat) (fb : List Nat) (o : Oper) (t : Tr) (h : Hp) (K : Tr → Hp → Prop) : Prop := match o.dst with
  | none => match o.op with
    | .store T x y => match stFb x fb with
      | true => ∃ (id : Nat) (s : S), (NAM ≤ id ∧ Step P N o (envT t h) (upd (envT t h) (some id) (nameS s))) ∧ K t (hset h id s)
      | false => match tt.get T with
        | some i => ovK t y fun sy => match sy with
         | .sref q1 q2 q3 => match (shI i).1, Nat.beq (shI i).2 1 with
          | false, true => ovK t x fun s => match s with
            | .ref u off => match Nat.ble 500000 u, t.get u with
              | false, .ubox cs => patchK cs off [.rr q1 q2 q3] fun cs' => setK 20 t u (.ubox cs') fun t' => K t' h
              | _, _ => False
            | _ => False
          | _, _ => False
         | .uagg rc => match Nat.beq rc.length (shI i).2 with
          | true => ovK t x fun s => match s with
            | .ref u off => match Nat.ble 500000 u, t.get u with
              | false, .ubox cs => patchK cs off rc fun cs' => setK 20 t u (.ubox cs') fun t' => K t' h
              | _, _ => False
            | _ => False
          | false => False
         | _ => dK t y fun r => cellsK r fun rc => match Nat.beq rc.length (shI i).2 with
          | true => ovK t x fun s => match s with
            | .ref u off => match Nat.ble 500000 u, t.get u with
              | false, .box cs => patchK cs off rc fun cs' => setK 20 t u (.box cs') fun t' => K t' h
              | false, .ubox cs => patchK cs off rc fun cs' => setK 20 t u (.ubox cs') fun t' => K t' h
              | _, _ => False
            | .c (.d (.ptr id off)) => ∃ cs, (NAM ≤ id ∧ h id = .obj cs) ∧ patchK cs off rc fun cs' => K t (hset h id (.obj cs'))
            | .gref id sz off => ∃ xs zs, (Nat.ble 1000000 id = false ∧ t.get id = .gbox sz xs ∧ off + rc.length ≤ xs.length * sz ∧ xs ≠ [] ∧ flat zs = patch (flat xs) off rc ∧ zs.length = xs.length ∧ ∀ z ∈ zs, z.cells.length = sz) ∧ setK 20 t id (.gbox sz zs) fun t' => K t' h
            | _ => False
          | false => False
        | none => False
    | _ => ∃ (id : Nat) (s : S), (NAM ≤ id ∧ Step P N o (envT t h) (upd (envT t h) (some id) (nameS s))) ∧ K t (hset h id s)
  | some d => match Nat.ble N d with
    | true => False
    | false => match memN d fb with
      | true => ∃ (s : S) (h' : Hp), Step P N o (envT t h) (upd (envT t h') (some d) s) ∧ sK s fun s => setK 20 t d s fun t' => K t' h'
      | false => match memN (Nat.add d 2000) fb with
      | true => StepP P N o (envT t h) fun e => ∃ (t' : Tr) (h' : Hp), e = envT t' h' ∧ K t' h'
      | false => match o.op with
        | .box T x => dK t x fun r => cellsK r fun cs => mapK (unrefK d) t fun t => setK 20 t d (.box cs) fun t => K t h
        | .alloc T => match tt.get T with
          | some i => match zI i with
            | some z => mapK (unrefK d) t fun t => setK 20 t d (.box z) fun t => K t h
            | none => False
          | none => False
        | .call c => match c.callee with
          | .builtin .append => appK tt d c t fun t => K t h
          | _ => yK P tt N d o t h fun s => setK 20 t d s fun t => K t h
        | _ => yK P tt N d o t h fun s => setK 20 t d s fun t => K t h
def gK (all : List Oper) (kn : List Nat) (o : Oper) (t : Tr) (K : Bool → List Nat → Tr → Prop) : Prop := match o.guard with
  | none => K true kn t
  | some (j, want) => match all[j]? with
    | some oj => match oj.dst with
      | some u => match Nat.ble 1000000 u, t.get u with
        | false, .c (.d (.sc (.bool b))) => match memN u kn with
          | true => match b, want with
            | true, true => K true kn t
            | false, false => K true kn t
            | true, false => K false kn t
            | false, true => K false kn t
          | false => (b = true → setK 20 t u (.c (.d (.sc (.bool true)))) fun t => K want (u :: kn) t) ∧ (b = false → setK 20 t u (.c (.d (.sc (.bool false)))) fun t => K (!want) (u :: kn) t)
        | false, .tup _ => K false kn t
        | _, _ => False
      | none => False
    | none => False
abbrev XL := List Nat → Tr → Hp → (Tr → Hp → Prop) → Prop
def xopsB (P : Program) (tt : TT) (N : Nat) (fb : List Nat) (all : List Oper) (o : Oper) (rest : XL) : XL := fun kn t h K => gK all kn o t fun run kn t => match run with
  | false => match o.dst with
    | some d => match Nat.ble 1000000 d with
      | true => False
      | false => setK 20 t d (.tup []) fun t => rest kn t h K
    | none => rest kn t h K
  | true => match o.op with
    | .next (.tmp it) false => match o.dst, Nat.ble 1000000 it, t.get it with
      | some d, false, .iter id n seen => match Nat.ble N d, Nat.beq d it with
        | false, false => ∃ es, (NAM ≤ id ∧ h id = .mapo es ∧ es.length = n) ∧ ((∀ i, i < n → i ∈ seen) → setK 20 t d (.tup [.d (.sc (.bool false))]) fun t => rest kn t h K) ∧
          (∀ i p, es[i]? = some p → i ∉ seen → setK 20 t it (.iter id n (seen ++ [i])) fun t => setK 20 t d (.tup [.d (.sc (.bool true)), .d p.1, .d p.2]) fun t => rest kn t h K)
        | _, _ => False
      | _, _, _ => False
    | _ => xstep P tt N fb o t h fun t h => rest kn t h K
def xops (P : Program) (tt : TT) (N : Nat) (fb : List Nat) (all : List Oper) (l : List Oper) : XL := @List.rec Oper (fun _ => XL) (fun _ t h K => K t h) (fun o _ ih => xopsB P tt N fb all o ih) l
section
variable {P : Program} {tt : TT} {N : Nat} {fb : List Nat} {o : Oper} {t : Tr} {h : Hp} {K : Tr → Hp → Prop}
theorem blt_of {d : Nat} (h : Nat.ble N d = false) : d < N := by
  rcases Nat.lt_or_ge d N with h1 | h1
  · exact h1
  · rw [Nat.ble_eq_true_of_le h1] at h; cases h
theorem yset_sound (htt : TTok P tt) (hNB : N ≤ BIG) {d : Nat} (hdst : o.dst = some d) (hd : d < N) (hk : yK P tt N d o t h fun s => setK 20 t d s fun t => K t h) : ∃ t' h', Step P N o (envT t h) (envT t' h') ∧ K t' h' := by
  obtain ⟨s, h1, h2⟩ := yK_sound htt hdst hd hk
  obtain ⟨t', h3, h4⟩ := setK_spec h2
  refine ⟨t', h, ?_, h4⟩
  rw [envT_set (nam (Nat.lt_of_lt_of_le hd hNB)) h3]
  have := h1.step
  rwa [hdst] at this
def CalmE (env env' : Env) : Prop := ∀ t, (∀ d off, env' t = .ref d off → env t = .ref d off) ∧ (nb (env t) = true → nb (env' t) = true)
theorem calm_upd (env : Env) (u : Nat) (s : S) (h1 : nb s = true) (h2 : ∀ d off, s ≠ .ref d off) : CalmE env (upd env (some u) s) := by
  intro t
  by_cases e : t = u
  · subst e
    simp only [upd, if_true]
    exact ⟨fun d off h => absurd h (h2 d off), fun _ => h1⟩
  · simp only [upd, if_neg e]; exact ⟨fun _ _ h => h, fun h => h⟩
theorem calm_spend (env : Env) (τ u : Nat) (s : S) (h1 : nb s = true) (h2 : ∀ d off, s ≠ .ref d off) : CalmE env (upd (spend env τ) (some u) s) := by
  intro t
  by_cases e : t = u
  · subst e
    simp only [upd, if_true]
    exact ⟨fun d off h => absurd h (h2 d off), fun _ => h1⟩
  · simp only [upd, if_neg e, spend]
    cases env t <;> simp [demote, nb]
theorem appK_sound (htt : TTok P tt) (hNB : N ≤ BIG) {d : Nat} {c : Call} {K : Tr → Prop} (hop : o.op = .call c) (hcal : c.callee = .builtin .append) (hdst : o.dst = some d) (hd : d < N) (hk : appK tt d c t K) : ∃ t2, Step P N o (envT t h) (envT t2 h) ∧ K t2 ∧ CalmE (envT t h) (envT t2 h) := by
  have hdB : d < BIG := Nat.lt_of_lt_of_le hd hNB
  unfold appK at hk
  split at hk
  · rename_i x y T T' hx hT
    obtain ⟨callee, args, argTypes⟩ := c
    obtain rfl : args = #[x, y] := Array.ext' (by simpa using hx)
    obtain rfl : argTypes = #[T, T'] := Array.ext' (by simpa using hT)
    simp only at hcal
    subst hcal
    split at hk
    · rename_i e sz bytes hTT hi
      obtain rfl := Nat.eq_of_beq_eq_true hTT
      have hfull := (htt _ _ hi).2.1
      have hk := ovK_spec (h := h) hk
      obtain ⟨dy, h1, h2⟩ := dK_spec (h := h) hk
      split at h2
      · rename_i ys
        split at h2
        · rename_i τ e' xs hs
          split at h2
          · rename_i he
            obtain rfl := Nat.eq_of_beq_eq_true he
            obtain ⟨⟨h3, h4, h5⟩, zs, rfl, h6⟩ := h2
            obtain ⟨t1, h7, h8⟩ := mapK_spec (f := demote τ) rfl demK_spec h6
            obtain ⟨t2, h9, h10⟩ := setK_spec h8
            exact ⟨t2, by rw [envT_spend (nam hdB) h7 h9]; exact s_append hop hfull hs h1 h3 h4 h5 hdst hd, h10, by rw [envT_spend (nam hdB) h7 h9]; exact calm_spend _ _ _ _ rfl (by intro _ _ e; cases e)⟩
          · exact h2.elim
        · rename_i hs
          obtain ⟨⟨h3, h4, h5⟩, h6⟩ := h2
          obtain ⟨t2, h9, h10⟩ := setK_spec h6
          refine ⟨t2, ?_, h10, by rw [envT_set (nam hdB) h9]; exact calm_upd _ _ _ rfl (by intro _ _ e; cases e)⟩
          rw [envT_set (nam hdB) h9]
          have := (y_append_nil (d := d) hop hfull hs h1 h3 h4 h5 hdst hd).step
          rwa [hdst] at this
        · exact h2.elim
      · exact h2.elim
    · rename_i e sz bytes hTT hi
      split at hk
      · rename_i hsz hstr
        obtain rfl := Nat.eq_of_beq_eq_true hsz
        have hfull := (htt _ _ hi).2.1
        have hk := ovK_spec (h := h) hk
        obtain ⟨v, h1, _, h2⟩ := vK_spec (h := h) hk
        split at h2
        · rename_i τ e' xs y' hs _
          split at h2
          · rename_i he
            obtain rfl := Nat.eq_of_beq_eq_true he
            obtain ⟨⟨h4, h5⟩, zs, rfl, h6⟩ := h2
            obtain ⟨t1, h7, h8⟩ := mapK_spec (f := demote τ) rfl demK_spec h6
            obtain ⟨t2, h9, h10⟩ := setK_spec h8
            exact ⟨t2, by rw [envT_spend (nam hdB) h7 h9]; exact s_append_str hop hfull (htt _ _ hstr).2.1 hs h1 h4 h5 hdst hd, h10, by rw [envT_spend (nam hdB) h7 h9]; exact calm_spend _ _ _ _ rfl (by intro _ _ e; cases e)⟩
          · exact h2.elim
        · exact h2.elim
      · exact hk.elim
    · exact hk.elim
  · exact hk.elim
theorem stepP_of (hs : ∃ t' h', Step P N o (envT t h) (envT t' h') ∧ K t' h') : StepP P N o (envT t h) fun e => ∃ t' h', e = envT t' h' ∧ K t' h' := by
  obtain ⟨t', h', h1, h2⟩ := hs
  exact h1.toP ⟨t', h', rfl, h2⟩
theorem xstep_sound2 (htt : TTok P tt) (hNB : N ≤ BIG) (hk : xstep P tt N fb o t h K) : StepP P N o (envT t h) fun e => ∃ t' h', e = envT t' h' ∧ K t' h' := by
  unfold xstep at hk
  split at hk
  · rename_i hdst
    refine stepP_of ?_
    split at hk
    · rename_i T x y hop
      obtain hfb | hfb := Bool.eq_false_or_eq_true (stFb x fb)
      · rw [hfb] at hk
        obtain ⟨id, s, ⟨hb, h1⟩, h2⟩ := hk
        refine ⟨t, _, ?_, h2⟩
        unfold hset
        rw [envT_name hb]; exact h1
      rw [hfb] at hk
      dsimp only at hk
      split at hk
      · rename_i i hi
        have hsh := shI_ok (htt _ _ hi)
        have hk := ovK_spec (h := h) hk
        split at hk
        · rename_i q1 q2 q3 hy
          split at hk
          · rename_i ha hl
            have hl := Nat.eq_of_beq_eq_true hl
            have h2 := ovK_spec (h := h) hk
            split at h2
            · rename_i u off hx
              split at h2
              · rename_i cs hb hcs
                have hu := blb_lt hb
                obtain ⟨h3, h4⟩ := patchK_spec h2
                obtain ⟨t', h5, h6⟩ := setK_spec h4
                refine ⟨t', h, ?_, h6⟩
                rw [envT_set (nam hu) h5]
                have hsh' : tshape P T = some (false, 1) := by rw [hsh]; cases hq : shI i; rw [hq] at ha hl; simp at ha hl; rw [ha, hl]
                exact s_storeR (m := 1) hop hx (by rw [envT_lt (nam hu)]; exact hcs) hu hy hsh' h3 hdst
              · exact h2.elim
            · exact h2.elim
          · exact hk.elim
        · rename_i rc hy
          split at hk
          · rename_i hl
            have hl := Nat.eq_of_beq_eq_true hl
            have h2 := ovK_spec (h := h) hk
            split at h2
            · rename_i u off hx
              split at h2
              · rename_i cs hb hcs
                have hu := blb_lt hb
                obtain ⟨h3, h4⟩ := patchK_spec h2
                obtain ⟨t', h5, h6⟩ := setK_spec h4
                refine ⟨t', h, ?_, h6⟩
                rw [envT_set (nam hu) h5]
                exact s_storeA hop hx (by rw [envT_lt (nam hu)]; exact hcs) hu hy hsh hl h3 hdst
              · exact h2.elim
            · exact h2.elim
          · exact hk.elim
        obtain ⟨r, h1, h2⟩ := dK_spec (h := h) hk
        have h2 := cellsK_spec h2
        split at h2
        · rename_i hl
          have hl := Nat.eq_of_beq_eq_true hl
          have h2 := ovK_spec (h := h) h2
          split at h2
          · rename_i u off hx
            split at h2
            · rename_i cs hb hcs
              have hu := nam (blb_lt hb)
              obtain ⟨h3, h4⟩ := patchK_spec h2
              obtain ⟨t', h5, h6⟩ := setK_spec h4
              refine ⟨t', h, ?_, h6⟩
              rw [envT_set hu h5]
              exact s_store hop hx (by rw [envT_lt hu]; exact hcs) h1 hsh hl h3 hdst
            · rename_i cs hb hcs
              have hu := nam (blb_lt hb)
              obtain ⟨h3, h4⟩ := patchK_spec h2
              obtain ⟨t', h5, h6⟩ := setK_spec h4
              refine ⟨t', h, ?_, h6⟩
              rw [envT_set hu h5]
              exact s_storeU hop hx (by rw [envT_lt hu]; exact hcs) (blb_lt hb) h1 hsh hl h3 hdst
            · exact h2.elim
          · rename_i id off hx
            obtain ⟨cs, ⟨hb, hid⟩, h2⟩ := h2
            obtain ⟨h3, h4⟩ := patchK_spec h2
            refine ⟨t, _, ?_, h4⟩
            unfold hset
            rw [envT_name hb]
            exact s_store_ptr hop (by unfold vd; rw [hx]; rfl) (by rw [envT_at hb, hid]; rfl) h1 hsh hl h3 hdst
          · rename_i id sz off hx
            obtain ⟨xs, zs, ⟨hb, hid, q1, q2, q3, q4, q5⟩, h2⟩ := h2
            obtain ⟨t', h5, h6⟩ := setK_spec h2
            refine ⟨t', h, ?_, h6⟩
            rw [envT_set (ble_lt hb) h5]
            exact s_storeG hop hx (by rw [envT_lt (ble_lt hb)]; exact hid) h1 hsh hl q1 q2 q3 q4 q5 hdst
          · exact h2.elim
        · exact h2.elim
      · exact hk.elim
    · obtain ⟨id, s, ⟨hb, h1⟩, h2⟩ := hk
      refine ⟨t, _, ?_, h2⟩
      unfold hset
      rw [envT_name hb]; exact h1
  · rename_i d hdst
    split at hk
    · exact hk.elim
    · rename_i hdN
      have hd := blt_of hdN
      have hdB : d < BIG := Nat.lt_of_lt_of_le hd hNB
      split at hk
      · refine stepP_of ?_
        obtain ⟨s, h', h1, h2⟩ := hk
        obtain ⟨t', h3, h4⟩ := setK_spec (sK_spec h2)
        exact ⟨t', h', by rw [envT_set (nam hdB) h3]; exact h1, h4⟩
      · split at hk
        · exact hk
        refine stepP_of ?_
        split at hk
        · rename_i T x hop
          obtain ⟨r, h1, h2⟩ := dK_spec (h := h) hk
          obtain ⟨t1, h3, h4⟩ := mapK_spec (f := unref d) rfl unrefK_spec (cellsK_spec h2)
          obtain ⟨t2, h5, h6⟩ := setK_spec h4
          exact ⟨t2, h, by rw [envT_box (nam hdB) h3 h5]; exact s_box hop h1 hdst hd hdB, h6⟩
        · rename_i T hop
          split at hk
          · rename_i i hi
            split at hk
            · rename_i z hz
              obtain ⟨t1, h3, h4⟩ := mapK_spec (f := unref d) rfl unrefK_spec hk
              obtain ⟨t2, h5, h6⟩ := setK_spec h4
              exact ⟨t2, h, by rw [envT_box (nam hdB) h3 h5]; exact s_alloc hop (zI_ok (htt _ _ hi) hz) hdst hd hdB, h6⟩
            · exact hk.elim
          · exact hk.elim
        · rename_i c hop
          split at hk
          · rename_i hcal
            obtain ⟨t2, h1, h2, _⟩ := appK_sound (h := h) htt hNB hop hcal hdst hd hk
            exact ⟨t2, h, h1, h2⟩
          · exact yset_sound htt hNB hdst hd hk
        · exact yset_sound htt hNB hdst hd hk
theorem gK_sound {all : List Oper} {kn : List Nat} {K : Bool → List Nat → Tr → Prop} (hk : gK all kn o t K) : ∃ run kn' t', guardOk all.toArray o (envT t' h) = some run ∧ envT t' h = envT t h ∧ K run kn' t' := by
  unfold gK at hk
  unfold guardOk
  split at hk
  · rename_i hg
    exact ⟨true, kn, t, by rw [hg], rfl, hk⟩
  · rename_i j want hg
    simp only [hg, List.getElem?_toArray]
    split at hk
    · rename_i oj hj
      simp only [hj, Option.bind_some]
      split at hk
      · rename_i u hu
        simp only [hu]
        split at hk
        · rename_i b hb hs
          have hlt := ble_lt hb
          split at hk
          · split at hk
            all_goals exact ⟨_, kn, t, by rw [envT_lt hlt, hs]; rfl, rfl, hk⟩
          · cases b with
            | true =>
              obtain ⟨t', h1, h2⟩ := setK_spec (hk.1 rfl)
              have e : envT t' h = envT t h := by
                rw [envT_set hlt h1]
                funext v
                simp only [upd]
                split
                · rename_i e; subst e; rw [envT_lt hlt, hs]
                · rfl
              refine ⟨_, _, t', ?_, e, h2⟩
              rw [envT_lt hlt, h1, if_pos rfl]
              cases want <;> rfl
            | false =>
              obtain ⟨t', h1, h2⟩ := setK_spec (hk.2 rfl)
              have e : envT t' h = envT t h := by
                rw [envT_set hlt h1]
                funext v
                simp only [upd]
                split
                · rename_i e; subst e; rw [envT_lt hlt, hs]
                · rfl
              refine ⟨_, _, t', ?_, e, h2⟩
              rw [envT_lt hlt, h1, if_pos rfl]
              cases want <;> rfl
        · rename_i cs hb hs
          exact ⟨false, kn, t, by rw [envT_lt (ble_lt hb), hs], rfl, hk⟩
        · exact hk.elim
      · exact hk.elim
    · exact hk.elim
theorem xops_sound (htt : TTok P tt) (hNB : N ≤ BIG) {all : List Oper} : ∀ {l : List Oper} {kn : List Nat} {t : Tr} {h : Hp} {K : Tr → Hp → Prop}, xops P tt N fb all l kn t h K → VL P N all.toArray l (envT t h) (fun env => ∃ t h, env = envT t h ∧ K t h)
  | [], kn, t, h, K, hk => vl_nil ⟨t, h, rfl, hk⟩
  | o :: rest, kn, t, h, K, hk => by
    change xopsB P tt N fb all o (xops P tt N fb all rest) kn t h K at hk
    unfold xopsB at hk
    obtain ⟨run, kn', t', hg, he, hk⟩ := gK_sound (h := h) hk
    rw [← he]
    cases run with
    | false =>
      simp only at hk
      refine vl_skip hg ?_
      split at hk
      · rename_i d hdst
        split at hk
        · exact hk.elim
        · rename_i hb
          obtain ⟨t2, h1, h2⟩ := setK_spec hk
          rw [hdst, ← envT_set (ble_lt hb) h1]
          exact xops_sound htt hNB h2
      · rename_i hdst
        rw [hdst]
        exact xops_sound htt hNB hk
    | true =>
      simp only at hk
      split at hk
      · rename_i it hop
        split at hk
        · rename_i d id n seen hdst hb hit
          split at hk
          · rename_i hdN hne
            obtain ⟨es, ⟨hid, hm, hn⟩, hk1, hk2⟩ := hk
            have hd := blt_of hdN
            have hlt := ble_lt hb
            refine vl_next (ty := 0) hop hg (by rw [envT_lt hlt]; exact hit) (by rw [envT_at hid, hm]; rfl) hn hdst hd (fun e => by rw [e, Nat.beq_refl] at hne; cases hne) (fun h0 => ?_) (fun i p hp hi => ?_)
            · obtain ⟨t2, h1, h2⟩ := setK_spec (hk1 h0)
              rw [← envT_set (nam (Nat.lt_of_lt_of_le hd hNB)) h1]
              exact xops_sound htt hNB h2
            · obtain ⟨t2, h1, h2⟩ := setK_spec (hk2 i p hp hi)
              obtain ⟨t3, h3, h4⟩ := setK_spec h2
              rw [← envT_set hlt h1, ← envT_set (nam (Nat.lt_of_lt_of_le hd hNB)) h3]
              exact xops_sound htt hNB h4
          · exact hk.elim
        · exact hk.elim
      · refine vl_stepP hg (xstep_sound2 htt hNB hk) ?_
        rintro e ⟨t2, h2, rfl, h4⟩
        exact xops_sound htt hNB h4
end
end Go.Vm
end
section
namespace Go.Vm
open Go.RowKit
def freshK (ds : List Nat) (s : S) (K : S → Prop) : Prop := match s with
  | .ref u off => match memN u ds with
    | true => K .junk
    | false => K (.ref u off)
  | s => sK s K
theorem memN_spec : ∀ {l : List Nat} {n : Nat}, memN n l = l.contains n
  | [], n => rfl
  | m :: l, n => by
    simp only [memN, List.contains_cons]
    have beqe : Nat.beq n m = (n == m) := by rw [Bool.eq_iff_iff]; simp [Nat.beq_eq]
    rw [← beqe]
    split
    · rename_i h; rw [h]; rfl
    · rename_i h; rw [h, Bool.false_or]; exact memN_spec
def clearK : List Nat → Tr → (Tr → Prop) → Prop
  | [], t, K => K t
  | d :: l, t, K => match Nat.ble 500000 d with
    | true => False
    | false => setK 20 t d .junk fun t => clearK l t K
theorem clearK_spec : ∀ {l : List Nat} {t : Tr} {K : Tr → Prop}, clearK l t K → ∃ t', (∀ u, t'.get u = if l.contains u then .junk else t.get u) ∧ (∀ d ∈ l, d < BIG) ∧ K t'
  | [], t, K, h => ⟨t, fun u => by simp, by simp, h⟩
  | d :: l, t, K, h => by
    simp only [clearK] at h
    split at h
    · exact h.elim
    · rename_i hb
      obtain ⟨t1, h1, h2⟩ := setK_spec h
      obtain ⟨t2, h3, h4, h5⟩ := clearK_spec h2
      refine ⟨t2, fun u => ?_, ?_, h5⟩
      · rw [h3, h1, List.contains_cons]
        by_cases e : u = d
        · subst e; simp
        · have : (u == d) = false := by simpa using e
          simp [this, e]
      · intro x hx
        rcases List.mem_cons.1 hx with rfl | hx
        · exact blb_lt hb
        · exact h4 x hx
def xq1 (P : Program) (tt : TT) (N : Nat) (fb : List Nat) (all : List Oper) (o : Oper) (rest : XL) (run : Bool) : XL := fun kn t h K => match derefOk all.toArray o (envT t h) with
    | false => False
    | true => match run with
      | false => match o.dst with
        | some d => match Nat.ble 500000 d with
          | true => False
          | false => setK 20 t d (.tup []) fun t => rest kn t h K
        | none => rest kn t h K
      | true => match o.dst with
        | none => match o.op with
          | .store T x y => match tt.get T with
            | some i => ovK t y fun sy => match sy with
             | .sref q1 q2 q3 => match (shI i).1, Nat.beq (shI i).2 1 with
              | false, true => ovK t x fun s => match s with
                | .ref u off => match Nat.ble 500000 u, t.get u with
                  | false, .ubox cs => patchK cs off [.rr q1 q2 q3] fun cs' => setK 20 t u (.ubox cs') fun t' => rest kn t' h K
                  | _, _ => False
                | _ => False
              | _, _ => False
             | _ => dK t y fun r => cellsK r fun rc => match Nat.beq rc.length (shI i).2 with
              | true => ovK t x fun s => match s with
                | .ref u off => match Nat.ble 500000 u, t.get u with
                  | false, .box cs => patchK cs off rc fun cs' => setK 20 t u (.box cs') fun t' => rest kn t' h K
                  | false, .ubox cs => patchK cs off rc fun cs' => setK 20 t u (.ubox cs') fun t' => rest kn t' h K
                  | _, _ => False
                | _ => False
              | false => False
            | none => False
          | _ => False
        | some d => match Nat.ble N d with
          | true => False
          | false => match memN d fb with
            | true => ∃ s, DG P N fb all.toArray o (envT t h) (.slot (some d) s) ∧ sK s fun s => setK 20 t d s fun t => rest kn t h K
            | false => match memN (Nat.add d 4000) fb with
            | true => ∃ (eff : Eff) (s : S) (h' : Hp), (DG P N fb all.toArray o (envT t h) eff ∧ eff.app (envT t h) = upd (envT t h') (some d) s) ∧ sK s fun s => setK 20 t d s fun t => rest kn t h' K
            | false => match o.op with
              | .box T x => dK t x fun r => cellsK r fun cs => setK 20 t d (.box cs) fun t => rest kn t h K
              | .alloc T => match tt.get T with
                | some i => match zI i with
                  | some z => setK 20 t d (.box z) fun t => rest kn t h K
                  | none => False
                | none => False
              | _ => match memN (Nat.add d 6000) fb with
                | true => yK P tt N d o t (fun _ => .junk) fun s => match nb s, refOk o (envT t h) s with
                  | true, true => setK 20 t d s fun t => rest kn t h K
                  | _, _ => False
                | false => yK P tt N d o t h fun s => match nb s, refOk o (envT t h) s with
                  | true, true => setK 20 t d s fun t => rest kn t h K
                  | _, _ => False
def notRef : S → Bool
  | .ref _ _ => false
  | _ => true
def barK (P : Program) (tt : TT) (N : Nat) (fb : List Nat) (o : Oper) (t : Tr) (h : Hp) (K : Tr → Hp → Prop) : Prop := match o.dst with
  | none => ∃ (id : Nat) (s : S), (NAM ≤ id ∧ Step P N o (envT t h) (upd (envT t h) (some id) (nameS s))) ∧ K t (hset h id s)
  | some d => match Nat.ble N d with
    | true => False
    | false => match o.op with
      | .call c => match memN (Nat.add d 2000) fb with
       | true => ∃ (t' : Tr) (h' : Hp), (Step P N o (envT t h) (envT t' h') ∧ CalmE (envT t h) (envT t' h')) ∧ K t' h'
       | false => match c.callee with
        | .builtin .append => appK tt d c t fun t => K t h
        | _ => ∃ (s : S) (h' : Hp), Step P N o (envT t h) (upd (envT t h') (some d) s) ∧ sK s fun s => match nb s, notRef s with
          | true, true => setK 20 t d s fun t' => K t' h'
          | _, _ => False
      | _ => False
def isBar (fb : List Nat) (o : Oper) : Bool := match o.op with
  | .mapUpdate .. => true
  | _ => match o.dst with
    | some d => memN (Nat.add d 1000) fb
    | none => false
def barOf (fb : List Nat) : List Oper → Nat → List Nat
  | [], _ => []
  | o :: l, k => match isBar fb o with
    | true => k :: barOf fb l (Nat.succ k)
    | false => barOf fb l (Nat.succ k)
def xqB (P : Program) (tt : TT) (N : Nat) (fb : List Nat) (all : List Oper) (bar : List Nat) (o : Oper) (rest : Nat → XL) : Nat → XL := fun k kn t h K => gK all kn o t fun run kn t => match memN k bar with
  | true => match run with
    | true => barK P tt N fb o t h fun t h => rest (Nat.succ k) kn t h K
    | false => False
  | false => xq1 P tt N fb all o (rest (Nat.succ k)) run kn t h K
def xq (P : Program) (tt : TT) (N : Nat) (fb : List Nat) (all : List Oper) (bar : List Nat) (l : List Oper) : Nat → XL := @List.rec Oper (fun _ => Nat → XL) (fun _ _ t h K => K t h) (fun o _ ih => xqB P tt N fb all bar o ih) l
abbrev XC := Tr → Hp → (Exit → Tr → Hp → Prop) → Prop
def xseq (a b : XC) : XC := fun t h K => a t h fun e t h => match e with
  | .normal => b t h K
  | .ret => K .ret t h
  | .exit id => K (.exit id) t h
  | .goto l => K (.goto l) t h
  | .panic c => K (.panic c) t h
  | .outgrown => K .outgrown t h
def xcond (c : Operand) (a b : XC) : XC := fun t h K => ovK t c fun s => match s with
  | .c (.d (.sc (.bool p))) => match c with
    | .tmp u => match Nat.ble 1000000 u with
      | true => False
      | false => (p = true → setK 20 t u (.c (.d (.sc (.bool true)))) fun t => a t h K) ∧ (p = false → setK 20 t u (.c (.d (.sc (.bool false)))) fun t => b t h K)
    | _ => (p = true → a t h K) ∧ (p = false → b t h K)
  | _ => False
def xblock (id : Nat) (b : XC) : XC := fun t h K => b t h fun e t h => match e with
  | .exit i => match Nat.beq i id with
    | true => K .normal t h
    | false => K (.exit i) t h
  | .normal => K .normal t h
  | .ret => K .ret t h
  | .goto l => K (.goto l) t h
  | .panic c => K (.panic c) t h
  | .outgrown => K .outgrown t h
def xregion (P : Program) (tt : TT) (N : Nat) (fb : List Nat) (ops : Array Oper) (draw : Bool) : XC := fun t h K => match draw with
  | false => xops P tt N fb ops.toList ops.toList [] t h (K .normal)
  | true => (P.follows .mixedOrders = true ∧ drawnB fb ops (barOf fb ops.toList 0) = true) ∧ mapK (freshK (news ops.toList)) t fun t => clearK (news ops.toList) t fun t => xq P tt N fb ops.toList (barOf fb ops.toList 0) ops.toList 0 [] t h (K .normal)
def xleaf (P : Program) (N : Nat) (c : Code) : XC := fun t h K => Leaf (VC P N c (envT t h) fun e env => ∃ t h, env = envT t h ∧ K e t h)
def xcode (P : Program) (tt : TT) (N : Nat) (fb : List Nat) (c : Code) : XC := @Code.rec (fun _ => XC)
  (fun t h K => K .normal t h)
  (fun _ ops draw => xregion P tt N fb ops draw)
  (fun _ _ a b => xseq a b)
  (fun c _ _ a b => xcond c a b)
  (fun id _ b => xblock id b)
  (fun b _ => xleaf P N (.loop b))
  (fun f ps a b _ _ => xleaf P N (.rangeFunc f ps a b))
  (fun id t h K => K (.exit id) t h)
  (fun b _ => xleaf P N (.scope b))
  (fun _ t h K => K .normal t h)
  (fun l t h K => K (.goto l) t h)
  (fun t h K => K .ret t h)
  (fun why => xleaf P N (.refuse why))
  c
section
variable {P : Program} {tt : TT} {N : Nat} {fb : List Nat} {o : Oper} {t : Tr} {h : Hp}
def freshF (ds : List Nat) : S → S
  | .ref u off => if ds.contains u then .junk else .ref u off
  | s => s
theorem freshK_spec {ds : List Nat} (s : S) (K : S → Prop) (h : freshK ds s K) : K (freshF ds s) := by
  cases s with
  | ref u off =>
    simp only [freshK, memN_spec] at h
    show K (if ds.contains u then .junk else .ref u off)
    split at h
    · rename_i hb; rw [if_pos hb]; exact h
    · rename_i hb; rw [if_neg (by rw [hb]; simp)]; exact h
  | c x => cases x <;> exact h
  | _ => exact h
theorem nameS_fresh {ds : List Nat} {u : Nat} (hd : ∀ d ∈ ds, d < BIG) (hu : ¬ u < NAM) (s : S) : fresh1 ds u (nameS s) = nameS s := by
  cases s <;> rfl
theorem xq1_sound (htt : TTok P tt) (hNB : N ≤ BIG) {all : List Oper} {rest : XL} {run : Bool} {kn : List Nat} {t : Tr} {h : Hp} {K : Tr → Hp → Prop} (hg : guardOk all.toArray o (envT t h) = some run) (hk : xq1 P tt N fb all o rest run kn t h K) :
    ∃ eff, DG P N fb all.toArray o (envT t h) eff ∧ ∃ t' h' kn', eff.app (envT t h) = envT t' h' ∧ rest kn' t' h' K := by
  unfold xq1 at hk
  split at hk
  · exact hk.elim
  · rename_i hdr
    cases run with
    | false =>
      simp only at hk
      split at hk
      · rename_i d hdst
        split at hk
        · exact hk.elim
        · rename_i hb
          obtain ⟨t2, h1, h2⟩ := setK_spec hk
          refine ⟨_, dg_skip hg hdr (fun u hu => by rw [hdst] at hu; injection hu with hu; exact hu ▸ blb_lt hb), _, _, _, ?_, h2⟩
          show upd _ o.dst _ = _
          rw [hdst, ← envT_set (nam (blb_lt hb)) h1]
      · rename_i hdst
        refine ⟨_, dg_skip hg hdr (fun u hu => by rw [hdst] at hu; cases hu), _, _, _, ?_, hk⟩
        show upd _ o.dst _ = _
        rw [hdst]; rfl
    | true =>
      simp only at hk
      split at hk
      · rename_i hdst
        split at hk
        · rename_i T x y hop
          split at hk
          · rename_i i hi
            have hsh := shI_ok (htt _ _ hi)
            have hk := ovK_spec (h := h) hk
            split at hk
            · rename_i q1 q2 q3 hy
              split at hk
              · rename_i ha hl
                have hl := Nat.eq_of_beq_eq_true hl
                have h2 := ovK_spec (h := h) hk
                split at h2
                · rename_i u off hx
                  split at h2
                  · rename_i cs hb hcs
                    have hu := blb_lt hb
                    obtain ⟨h3, h4⟩ := patchK_spec h2
                    obtain ⟨t2, h5, h6⟩ := setK_spec h4
                    have hsh' : tshape P T = some (false, 1) := by rw [hsh]; cases hq : shI i; rw [hq] at ha hl; simp at ha hl; rw [ha, hl]
                    refine ⟨_, dg_storeR hg hop hx (by rw [envT_lt (nam hu)]; exact hcs) hy hsh' h3 hdst hdr hu, _, _, _, ?_, h6⟩
                    show upd _ (some u) _ = _
                    rw [← envT_set (nam hu) h5]
                  · exact h2.elim
                · exact h2.elim
              · exact hk.elim
            obtain ⟨r, h1, h2⟩ := dK_spec (h := h) hk
            have h2 := cellsK_spec h2
            split at h2
            · rename_i hl
              have hl := Nat.eq_of_beq_eq_true hl
              have h2 := ovK_spec (h := h) h2
              split at h2
              · rename_i u off hx
                split at h2
                · rename_i cs hb hcs
                  have hu := blb_lt hb
                  obtain ⟨h3, h4⟩ := patchK_spec h2
                  obtain ⟨t2, h5, h6⟩ := setK_spec h4
                  refine ⟨_, dg_store hg hop hx (by rw [envT_lt (nam hu)]; exact hcs) h1 hsh hl h3 hdst hdr hu, _, _, _, ?_, h6⟩
                  show upd _ (some u) _ = _
                  rw [← envT_set (nam hu) h5]
                · rename_i cs hb hcs
                  have hu := blb_lt hb
                  obtain ⟨h3, h4⟩ := patchK_spec h2
                  obtain ⟨t2, h5, h6⟩ := setK_spec h4
                  refine ⟨_, dg_storeU hg hop hx (by rw [envT_lt (nam hu)]; exact hcs) h1 hsh hl h3 hdst hdr hu, _, _, _, ?_, h6⟩
                  show upd _ (some u) _ = _
                  rw [← envT_set (nam hu) h5]
                · exact h2.elim
              · exact h2.elim
            · exact h2.elim
          · exact hk.elim
        · exact hk.elim
      · rename_i d hdst
        split at hk
        · exact hk.elim
        · rename_i hdN
          have hd := blt_of hdN
          have hdB : d < BIG := Nat.lt_of_lt_of_le hd hNB
          split at hk
          · obtain ⟨s, h1, h2⟩ := hk
            obtain ⟨t2, h3, h4⟩ := setK_spec (sK_spec h2)
            refine ⟨_, h1, _, _, _, ?_, h4⟩
            show upd _ (some d) _ = _
            rw [← envT_set (nam hdB) h3]
          · split at hk
            · obtain ⟨eff, s, h', ⟨h1, h2⟩, h3⟩ := hk
              obtain ⟨t2, h4, h5⟩ := setK_spec (sK_spec h3)
              refine ⟨_, h1, _, _, _, ?_, h5⟩
              rw [h2, ← envT_set (nam hdB) h4]
            rename_i hw4
            split at hk
            · rename_i T x hop
              obtain ⟨r, h1, h2⟩ := dK_spec (h := h) hk
              obtain ⟨t2, h5, h6⟩ := setK_spec (cellsK_spec h2)
              refine ⟨_, dg_box hg hop h1 hdst hd hdB, _, _, _, ?_, h6⟩
              show upd _ (some d) _ = _
              rw [← envT_set (nam hdB) h5]
            · rename_i T hop
              split at hk
              · rename_i i hi
                split at hk
                · rename_i z hz
                  obtain ⟨t2, h5, h6⟩ := setK_spec hk
                  refine ⟨_, dg_alloc hg hop (zI_ok (htt _ _ hi) hz) hdst hd hdB, _, _, _, ?_, h6⟩
                  show upd _ (some d) _ = _
                  rw [← envT_set (nam hdB) h5]
                · exact hk.elim
              · exact hk.elim
            · split at hk
              · obtain ⟨s, h1, h2⟩ := yK_sound htt hdst hd hk
                split at h2
                · rename_i hn hr
                  obtain ⟨t2, h5, h6⟩ := setK_spec h2
                  have e0 : envT t (fun _ => S.junk) = noN (envT t h) := by
                    funext u
                    unfold noN envT
                    split <;> rfl
                  rw [e0] at h1
                  refine ⟨_, dg_free hg h1 hn hr hdr (fun u hu => by rw [hdst] at hu; injection hu with hu; exact hu ▸ hdB), _, _, _, ?_, h6⟩
                  show upd _ o.dst _ = _
                  rw [hdst, ← envT_set (nam hdB) h5]
                · exact h2.elim
              · rename_i hw6
                have hcl : clsOf fb o ≠ 0 := by
                  unfold clsOf
                  rw [hdst]
                  simp only
                  split
                  · decide
                  · rw [if_neg (by rw [← memN_spec]; intro e; exact absurd (hw6.symm.trans e) (by decide))]; decide
                obtain ⟨s, h1, h2⟩ := yK_sound htt hdst hd hk
                split at h2
                · rename_i hn hr
                  obtain ⟨t2, h5, h6⟩ := setK_spec h2
                  refine ⟨_, dg_yield hg h1.all hcl hn hr hdr (fun u hu => by rw [hdst] at hu; injection hu with hu; exact hu ▸ hdB), _, _, _, ?_, h6⟩
                  show upd _ o.dst _ = _
                  rw [hdst, ← envT_set (nam hdB) h5]
                · exact h2.elim
theorem barK_sound (htt : TTok P tt) (hNB : N ≤ BIG) {all : List Oper} {t : Tr} {h : Hp} {K : Tr → Hp → Prop} (hg : guardOk all.toArray o (envT t h) = some true) (hk : barK P tt N fb o t h K) : ∃ t' h', BStep P N all.toArray o (envT t h) (envT t' h') ∧ K t' h' := by
  have calm : ∀ {env env' : Env}, Step P N o env env' → CalmE env env' → guardOk all.toArray o env = some true → BStep P N all.toArray o env env' := fun h1 h2 h3 => ⟨.inl ⟨h3, h1⟩, fun t => (h2 t).1, fun t => (h2 t).2⟩
  have cname : ∀ (id : Nat) (s : S), NAM ≤ id → CalmE (envT t h) (upd (envT t h) (some id) (nameS s)) := fun id s _ => calm_upd _ _ _ (by cases s <;> rfl) (by intro _ _ e; cases s <;> cases e)
  unfold barK at hk
  split at hk
  · obtain ⟨id, s, ⟨hb, h1⟩, h2⟩ := hk
    refine ⟨t, _, ?_, h2⟩
    unfold hset
    rw [envT_name hb]
    exact calm h1 (cname id s hb) hg
  · rename_i d hdst
    split at hk
    · exact hk.elim
    · rename_i hdN
      have hd := blt_of hdN
      have hdB : d < BIG := Nat.lt_of_lt_of_le hd hNB
      split at hk
      · rename_i c hop
        split at hk
        · obtain ⟨t', h', ⟨h1, h2⟩, h3⟩ := hk
          exact ⟨t', h', calm h1 h2 hg, h3⟩
        split at hk
        · rename_i hcal
          obtain ⟨t2, h1, h2, h3⟩ := appK_sound (h := h) htt hNB hop hcal hdst hd hk
          exact ⟨t2, h, calm h1 h3 hg, h2⟩
        · obtain ⟨s, h', h1, h2⟩ := hk
          have h2 := sK_spec h2
          split at h2
          · rename_i hn hr
            obtain ⟨t', h3, h4⟩ := setK_spec h2
            refine ⟨t', h', ?_, h4⟩
            rw [envT_set (nam hdB) h3]
            refine calm h1 (fun u => ?_) hg
            by_cases e : u = d
            · subst e
              simp only [upd, if_true]
              exact ⟨(fun a b e => by rw [e] at hr; cases hr), fun _ => hn⟩
            · simp only [upd, if_neg e]
              by_cases hu : u < NAM
              · rw [envT_lt hu, envT_lt hu]; exact ⟨fun _ _ h => h, fun h => h⟩
              · simp only [envT, if_neg hu]
                exact ⟨(fun _ _ e => by cases hx : h' u <;> rw [hx] at e <;> cases e), (fun _ => by cases h' u <;> rfl)⟩
          · exact h2.elim
      · exact hk.elim
theorem xq_sound (htt : TTok P tt) (hNB : N ≤ BIG) {all : List Oper} {bar : List Nat} : ∀ {l : List Oper} {k : Nat} {kn : List Nat} {t : Tr} {h : Hp} {K : Tr → Hp → Prop}, xq P tt N fb all bar l k kn t h K → VB P N fb all.toArray bar (fun env => ∃ t h, env = envT t h ∧ K t h) k l (envT t h)
  | [], k, kn, t, h, K, hk => ⟨t, h, rfl, hk⟩
  | o :: rest, k, kn, t, h, K, hk => by
    change xqB P tt N fb all bar o (xq P tt N fb all bar rest) k kn t h K at hk
    unfold xqB at hk
    obtain ⟨run, kn', t', hg, he, hk⟩ := gK_sound (h := h) hk
    rw [← he]
    unfold VB
    split at hk
    · rename_i hm
      rw [if_pos (by rw [memN_spec] at hm; simpa using hm)]
      split at hk
      · obtain ⟨t2, h2, h3, h4⟩ := barK_sound htt hNB hg hk
        exact ⟨_, h3, xq_sound htt hNB h4⟩
      · exact hk.elim
    · rename_i hm
      rw [if_neg (by rw [memN_spec] at hm; simpa using hm)]
      obtain ⟨eff, h1, t2, h2, kn2, h3, h4⟩ := xq1_sound htt hNB hg hk
      exact ⟨eff, h1, by rw [h3]; exact xq_sound htt hNB h4⟩
theorem vb_mono {ops : Array Oper} {bar : List Nat} {K K' : Env → Prop} (hK : ∀ env, K env → K' env) : ∀ {l : List Oper} {k : Nat} {env : Env}, VB P N fb ops bar K k l env → VB P N fb ops bar K' k l env
  | [], k, env, h => hK env h
  | o :: l, k, env, h => by
    unfold VB at h ⊢
    split
    · rename_i hm
      rw [if_pos hm] at h
      obtain ⟨env', h1, h2⟩ := h
      exact ⟨env', h1, vb_mono hK h2⟩
    · rename_i hm
      rw [if_neg hm] at h
      obtain ⟨eff, h1, h2⟩ := h
      exact ⟨eff, h1, vb_mono hK h2⟩
theorem xdrawn_sound (htt : TTok P tt) (hNB : N ≤ BIG) {id : Nat} {l : List Oper} {K : Tr → Hp → Prop} {Q : Exit → Env → Prop} (hQ : ∀ t h, K t h → Q .normal (envT t h)) (hm : P.follows .mixedOrders = true) {bar : List Nat} (hB : drawnB fb l.toArray bar = true)
    (hk : mapK (freshK (news l)) t fun t => clearK (news l) t fun t => xq P tt N fb l bar l 0 [] t h K) : VC P N (.region id l.toArray true) (envT t h) Q := by
  obtain ⟨t1, h1, hk⟩ := mapK_spec (f := freshF (news l)) rfl freshK_spec hk
  obtain ⟨t2, h2, hds, hk⟩ := clearK_spec hk
  refine vc_weaken (env' := envT t2 h) (fun u => ?_) (vc_drawnB bar hm hB ?_)
  · by_cases hu : u < NAM
    · rw [envT_lt hu, envT_lt hu, h2, h1]
      by_cases hc : (news l).contains u = true
      · right; simp only [hc, if_true]
      · simp only [hc, Bool.false_eq_true, if_false]
        cases t.get u with
        | ref d off =>
          simp only [freshF]
          by_cases hd : (news l).contains d = true
          · right; simp only [hd, if_true]
          · left; simp only [hd, Bool.false_eq_true, if_false]
        | _ => left; rfl
    · left; simp only [envT, if_neg hu]
  · have e : freshen l (envT t2 h) = envT t2 h := by
      funext u
      unfold freshen
      by_cases hu : u < NAM
      · rw [envT_lt hu, h2, h1]
        by_cases hc : (news l).contains u = true
        · simp only [hc, if_true]; rfl
        · simp only [hc, Bool.false_eq_true, if_false]
          cases t.get u with
          | ref d off =>
            simp only [freshF]
            by_cases hd : (news l).contains d = true
            · simp only [hd, if_true]; rfl
            · simp only [hd, Bool.false_eq_true, if_false, fresh1]
          | box cs => simp only [freshF, fresh1, hc, Bool.false_eq_true, if_false]
          | ubox cs => simp only [freshF, fresh1, hc, Bool.false_eq_true, if_false]
          | _ => rfl
      · simp only [envT, if_neg hu]
        exact nameS_fresh hds hu _
    rw [e]
    have := xq_sound htt hNB hk
    refine vb_mono ?_ this
    rintro env ⟨t, h, rfl, hk⟩
    exact hQ t h hk
end
end Go.Vm
end
section
namespace Go.Vm
open Go.RowKit
def liftK (K : Exit → Tr → Hp → Prop) : Exit → Env → Prop := fun e env => ∃ t h, env = envT t h ∧ K e t h
section
variable {P : Program} {tt : TT} {N : Nat} {fb : List Nat} {t : Tr} {h : Hp} {K : Exit → Tr → Hp → Prop}
theorem xcode_sound (htt : TTok P tt) (hNB : N ≤ BIG) : ∀ {c : Code} {t : Tr} {h : Hp} {K : Exit → Tr → Hp → Prop}, xcode P tt N fb c t h K → VC P N c (envT t h) (liftK K) := by
  intro c
  induction c with
  | skip => intro t h K hk; exact vc_skip ⟨t, h, rfl, hk⟩
  | label l => intro t h K hk; exact vc_label ⟨t, h, rfl, hk⟩
  | ret => intro t h K hk; exact vc_ret ⟨t, h, rfl, hk⟩
  | exit id => intro t h K hk; exact vc_exit ⟨t, h, rfl, hk⟩
  | goto l => intro t h K hk; exact vc_goto ⟨t, h, rfl, hk⟩
  | region id ops draw =>
    intro t h K hk
    cases draw with
    | false =>
      obtain ⟨l⟩ := ops
      exact vc_region (xops_sound htt hNB hk)
    | true =>
      obtain ⟨l⟩ := ops
      obtain ⟨⟨h1, h2⟩, h3⟩ := hk
      exact xdrawn_sound htt hNB (fun t h hk => ⟨t, h, rfl, hk⟩) h1 h2 h3
  | seq a b iha ihb =>
    intro t h K hk
    refine vc_then (vc_mono (iha hk) ?_)
    rintro e env ⟨t', h', rfl, hk'⟩
    cases e with
    | normal => exact ihb hk'
    | _ => exact ⟨t', h', rfl, hk'⟩
  | cond c a b iha ihb =>
    intro t h K hk
    have hk := ovK_spec (h := h) hk
    split at hk
    · rename_i p hp
      have hv : vd (envT t h) c = some (.sc (.bool p)) := by unfold vd; rw [hp]; rfl
      cases c with
      | tmp u =>
        simp only at hk
        split at hk
        · exact hk.elim
        · rename_i hb
          have hlt := ble_lt hb
          have hs : (envT t h) u = .c (.d (.sc (.bool p))) := by
            have h2 : slotV u (envT t h u) = .c (.d (.sc (.bool p))) := hp
            cases hx : envT t h u with
            | c x => rw [hx] at h2; exact h2
            | _ => rw [hx] at h2; cases h2
          have key : ∀ t', (∀ v, t'.get v = if v = u then .c (.d (.sc (.bool p))) else t.get v) → envT t' h = envT t h := by
            intro t' h1
            rw [envT_set hlt h1]
            funext v
            simp only [upd]
            split
            · rename_i e; subst e; exact hs.symm
            · rfl
          refine vc_if hv (fun e => ?_) (fun e => ?_)
          · obtain ⟨t', h1, h2⟩ := setK_spec (hk.1 e)
            rw [← key t' (by rw [e]; exact h1)]
            exact iha h2
          · obtain ⟨t', h1, h2⟩ := setK_spec (hk.2 e)
            rw [← key t' (by rw [e]; exact h1)]
            exact ihb h2
      | _ => exact vc_if hv (fun e => iha (hk.1 e)) (fun e => ihb (hk.2 e))
    · exact hk.elim
  | block id b ih =>
    intro t h K hk
    refine vc_block (vc_mono (ih hk) ?_)
    rintro e env ⟨t', h', rfl, hk'⟩
    cases e with
    | exit i =>
      simp only at hk'
      show if i = id then _ else _
      split at hk'
      · rename_i hb; rw [if_pos (Nat.eq_of_beq_eq_true hb)]; exact ⟨t', h', rfl, hk'⟩
      · rename_i hb; rw [if_neg (fun e => by rw [e, Nat.beq_refl] at hb; cases hb)]; exact ⟨t', h', rfl, hk'⟩
    | _ => exact ⟨t', h', rfl, hk'⟩
  | _ => intro t h K hk; exact hk.out
def copyK : List Nat → Tr → Tr → (Tr → Prop) → Prop
  | [], _, t1, K => K t1
  | a :: L, t, t1, K => sK (t.get a) fun s => setK 20 t1 a s fun t1 => copyK L t t1 K
theorem copyK_spec : ∀ {L : List Nat} {t t1 : Tr} {K : Tr → Prop}, copyK L t t1 K → ∃ t', (∀ u, t'.get u = if L.contains u then t.get u else t1.get u) ∧ K t'
  | [], t, t1, K, h => ⟨t1, by simp, h⟩
  | a :: L, t, t1, K, h => by
    obtain ⟨t2, h1, h2⟩ := setK_spec (sK_spec h)
    obtain ⟨t3, h3, h4⟩ := copyK_spec h2
    refine ⟨t3, fun u => ?_, h4⟩
    rw [h3, h1, List.contains_cons]
    by_cases e : u = a
    · subst e; simp
    · have : (u == a) = false := by simpa using e
      simp [this, e]
def setsK : List (Nat × S) → Tr → (Tr → Prop) → Prop
  | [], t, K => K t
  | (a, s) :: F, t, K => setK 20 t a s fun t => setsK F t K
theorem setsK_spec : ∀ {F : List (Nat × S)} {t : Tr} {K : Tr → Prop}, setsK F t K → ∃ t', (∀ u, (∃ s, (u, s) ∈ F ∧ t'.get u = s) ∨ ((∀ s, (u, s) ∉ F) ∧ t'.get u = t.get u)) ∧ K t'
  | [], t, K, h => ⟨t, fun u => .inr ⟨by simp, rfl⟩, h⟩
  | (a, s) :: F, t, K, h => by
    obtain ⟨t1, h1, h2⟩ := setK_spec h
    obtain ⟨t2, h3, h4⟩ := setsK_spec h2
    refine ⟨t2, fun u => ?_, h4⟩
    rcases h3 u with ⟨s', k1, k2⟩ | ⟨k1, k2⟩
    · exact .inl ⟨s', List.mem_cons_of_mem _ k1, k2⟩
    · rw [h1] at k2
      by_cases e : u = a
      · subst e
        exact .inl ⟨s, List.mem_cons_self .., by simpa using k2⟩
      · refine .inr ⟨fun s' hm => ?_, by simpa [e] using k2⟩
        rcases List.mem_cons.1 hm with h | h
        · injection h with h; exact e h
        · exact k1 s' h
def startK (L : List Nat) (F : List (Nat × S)) (t : Tr) (K : Tr → Prop) : Prop := copyK L t .leaf fun t1 => setsK F t1 K
def ent (t : Tr) : List (Nat × S) → Prop
  | [] => True
  | (a, s) :: F => t.get a = s ∧ ent t F
theorem ent_mem {t : Tr} : ∀ {F : List (Nat × S)}, ent t F → ∀ a s, (a, s) ∈ F → t.get a = s
  | [], _, a, s, h => by cases h
  | (a', s') :: F, ⟨h1, h2⟩, a, s, h => by
    rcases List.mem_cons.1 h with h | h
    · injection h with e1 e2; subst e1 e2; exact h1
    · exact ent_mem h2 a s h
theorem mapf_at {α β : Type} {f g : α → β} : ∀ {L : List α}, L.map f = L.map g → ∀ a ∈ L, f a = g a
  | [], _, a, h => by cases h
  | b :: L, h, a, ha => by
    simp only [List.map_cons, List.cons.injEq] at h
    rcases List.mem_cons.1 ha with rfl | ha
    · exact h.1
    · exact mapf_at h.2 a ha
theorem start_sub {L : List Nat} {F : List (Nat × S)} {t0 t : Tr} {h : Hp} {K : Tr → Prop} (hs : startK L F t0 K) (hL : L.map t.get = L.map t0.get) (hF : ent t F) : ∃ t1, (∀ u, envT t1 h u = envT t h u ∨ envT t1 h u = .junk) ∧ K t1 := by
  obtain ⟨t1, h1, h2⟩ := copyK_spec hs
  obtain ⟨t2, h3, h4⟩ := setsK_spec h2
  refine ⟨t2, fun u => ?_, h4⟩
  by_cases hu : u < NAM
  · rw [envT_lt hu, envT_lt hu]
    rcases h3 u with ⟨s, k1, k2⟩ | ⟨k1, k2⟩
    · left; rw [k2, ent_mem hF u s k1]
    · rw [k2, h1]
      by_cases hc : L.contains u = true
      · left; rw [if_pos hc]; exact (mapf_at hL u (by simpa using hc)).symm
      · right; rw [if_neg hc]; rfl
  · left; simp only [envT, if_neg hu]
def rndK {σ : Type} (L : List Nat) (F : σ → List (Nat × S)) (G : σ → Hp) (I : σ → Prop) (μ : σ → Nat) (t0 : Tr) (m : Nat) (K : Exit → Tr → Hp → Prop) : Exit → Tr → Hp → Prop
  | .normal, t, h => ∃ s, I s ∧ μ s < m ∧ L.map t.get = L.map t0.get ∧ ent t (F s) ∧ G s = h
  | e, t, h => K e t h
theorem xloop (htt : TTok P tt) (hNB : N ≤ BIG) {body : Code} (L : List Nat) {σ : Type} (F : σ → List (Nat × S)) (G : σ → Hp) (I : σ → Prop) (μ : σ → Nat) (s0 : σ) (h0 : I s0) (hF : ent t (F s0)) (hG : G s0 = h)
    (round : ∀ s, I s → startK L (F s) t fun t1 => xcode P tt N fb body t1 (G s) (rndK L F G I μ t (μ s) K)) : Leaf (VC P N (.loop body) (envT t h) fun e env => ∃ t h, env = envT t h ∧ K e t h) := by
  refine ⟨vc_loop (fun n env => ∃ s t', I s ∧ n = μ s ∧ L.map t'.get = L.map t.get ∧ ent t' (F s) ∧ env = envT t' (G s)) (n := μ s0) ⟨s0, t, h0, rfl, rfl, hF, by rw [hG]⟩ ?_⟩
  rintro n env ⟨s, t', h1, rfl, h2, h3, rfl⟩
  obtain ⟨t1, h4, h5⟩ := start_sub (h := G s) (round s h1) h2 h3
  refine vc_weaken h4 (vc_mono (xcode_sound htt hNB h5) ?_)
  rintro e env ⟨t2, h2, rfl, hk⟩
  cases e with
  | normal =>
    obtain ⟨s', k1, k2, k3, k4, k5⟩ := hk
    exact ⟨_, k2, s', t2, k1, rfl, k3, k4, by rw [k5]⟩
  | _ => exact ⟨t2, h2, rfl, hk⟩
theorem xloopR (htt : TTok P tt) (hNB : N ≤ BIG) {body : Code} (L : List Nat) {σ : Type} (F : σ → List (Nat × S)) (I : σ → Prop) (μ : σ → Nat) (s0 : σ) (h0 : I s0) (hF : ent t (F s0))
    (round : ∀ s, I s → startK L (F s) t fun t1 => xcode P tt N fb body t1 h (rndK L F (fun _ => h) I μ t (μ s) K)) : Leaf (VC P N (.loop body) (envT t h) fun e env => ∃ t h, env = envT t h ∧ K e t h) :=
  xloop htt hNB L F (fun _ => h) I μ s0 h0 hF rfl round
end
end Go.Vm
end
section
namespace Go.Vm
open Go.RowKit
section
variable {P : Program} {tt : TT} {N : Nat} {fb stop : List Nat} {t : Tr} {h : Hp} {K : Exit → Tr → Hp → Prop}
def argsT : Nat → List D → Tr → (Tr → Prop) → Prop
  | _, [], t, K => K t
  | k, d :: l, t, K => setK 20 t k (.c (.d d)) fun t => argsT (Nat.succ k) l t K
theorem argsT_spec : ∀ {l : List D} {k : Nat} {t : Tr} {K : Tr → Prop}, argsT k l t K → ∃ t', (∀ u, t'.get u = if u < k then t.get u else match l[u - k]? with | some d => .c (.d d) | none => t.get u) ∧ K t'
  | [], k, t, K, h => ⟨t, by simp, h⟩
  | d :: l, k, t, K, h => by
    obtain ⟨t1, h1, h2⟩ := setK_spec h
    obtain ⟨t2, h3, h4⟩ := argsT_spec h2
    refine ⟨t2, fun u => ?_, h4⟩
    rw [h3, h1]
    rcases Nat.lt_trichotomy u k with e | e | e
    · rw [if_pos (show u < Nat.succ k by omega), if_neg (by omega), if_pos e]
    · subst e; rw [if_pos (show u < Nat.succ u by omega), if_pos rfl, if_neg (by omega), Nat.sub_self]; rfl
    · rw [if_neg (show ¬ u < Nat.succ k by omega), if_neg (show ¬ u = k by omega), if_neg (show ¬ u < k by omega), show u - k = (u - Nat.succ k) + 1 by omega, List.getElem?_cons_succ]
def resvK (tt : TT) (t : Tr) : List ResultVar → (List C → Prop) → Prop
  | [], K => K []
  | .tmp u :: l, K => match Nat.ble 1000000 u, t.get u with
    | false, .c (.d x) => resvK tt t l fun cs => K (.d x :: cs)
    | false, .c (.own τ e xs) => resvK tt t l fun cs => K (.own τ e xs :: cs)
    | false, .c .nil => resvK tt t l fun cs => K (.nil :: cs)
    | _, _ => False
  | .cell u T :: l, K => match Nat.ble 1000000 u, t.get u, tt.get T with
    | false, .box cs, some i => partK (shI i) cs 0 fun d => resvK tt t l fun cs => K (.d d :: cs)
    | _, _, _ => False
theorem resvK_spec (htt : TTok P tt) : ∀ {l : List ResultVar} {K : List C → Prop}, resvK tt t l K → ∃ cs, vres P (envT t h) l = some cs ∧ K cs
  | [], K, hk => ⟨[], rfl, hk⟩
  | .tmp u :: l, K, hk => by
    simp only [resvK] at hk
    split at hk
    all_goals first | exact hk.elim | skip
    all_goals
      rename_i hb hs
      obtain ⟨cs, h1, h2⟩ := resvK_spec htt hk
      refine ⟨_ :: cs, ?_, h2⟩
      simp only [vres, vres1, envT_lt (ble_lt hb), hs, h1]
  | .cell u T :: l, K, hk => by
    simp only [resvK] at hk
    split at hk
    · rename_i cs i hb hs hi
      obtain ⟨d, h1, h2⟩ := partK_spec hk
      obtain ⟨cs', h3, h4⟩ := resvK_spec htt h2
      exact ⟨_, by simp only [vres, vres1, envT_lt (ble_lt hb), hs, shI_ok (htt _ _ hi), h1, h3, Option.map_some], h4⟩
    · exact hk.elim
def postL (h : Hp) : List (Nat × S) → Prop
  | [] => True
  | (n, s) :: l => (NAM ≤ n ∧ h n = s) ∧ postL h l
theorem postL_spec {post : List (Nat × S)} (h1 : postL h post) (h2 : ∀ p ∈ post, thing p.2 = true) : ∀ p ∈ post, envT t h p.1 = p.2 := by
  induction post with
  | nil => intro p hp; cases hp
  | cons q l ih =>
    obtain ⟨n, s⟩ := q
    intro p hp
    rcases List.mem_cons.1 hp with rfl | hp
    · have ht := h2 (n, s) (List.mem_cons_self ..)
      simp only [envT_at h1.1.1, h1.1.2]
      cases s <;> first | rfl | cases ht
    · exact ih h1.2 (fun q hq => h2 q (List.mem_cons_of_mem _ hq)) p hp
def finK (P : Program) (tt : TT) (rs : List ResultVar) (res : List C) (post : List (Nat × S)) : Exit → Tr → Hp → Prop
  | .normal, t, h => resvK tt t rs fun cs => Leaf (fitsL P cs res ∧ postL h post)
  | .ret, t, h => resvK tt t rs fun cs => Leaf (fitsL P cs res ∧ postL h post)
  | _, _, _ => False
def hOf : List (Nat × S) → Hp
  | [] => fun _ => .junk
  | (n, s) :: l => hset (hOf l) n s
theorem hOf_find : ∀ (l : List (Nat × S)) (u : Nat), hOf l u = match l.find? fun p => p.1 == u with | some p => p.2 | none => .junk
  | [], u => rfl
  | (n, s) :: l, u => by
    simp only [hOf, hset, List.find?_cons]
    by_cases e : u = n
    · subst e; simp
    · have : (n == u) = false := by simpa using fun h => e h.symm
      simp only [if_neg e, this]; exact hOf_find l u
theorem xfnH (htt : TTok P tt) {f : FuncId} {fn : Func} {c : Code} {args : List D} {res : List C} {pre post : List (Nat × S)} {rs : List ResultVar} (fb : List Nat) (hf : P.funcs[f]? = some fn) (hb : fn.body = some c) (hN : fn.ntmps = N) (hrs : fn.results.toList = rs) (hargs : args.length ≤ N) (hNB : N ≤ BIG)
    (hbig : ∀ p ∈ pre, NAM ≤ p.1) (hp : ∀ p ∈ pre, thing p.2 = true) (hq : ∀ p ∈ post, thing p.2 = true) (hk : argsT 0 args .leaf fun t => xcode P tt N fb c t (hOf pre) (finK P tt rs res post)) : ContractH P f args pre res post := by
  subst hrs
  refine contractH_of hf hb hN hargs hp hq ?_
  obtain ⟨t, h1, h2⟩ := argsT_spec hk
  have e : envH args pre = envT t (hOf pre) := by
    funext u
    unfold envH
    by_cases hu : u < NAM
    · rw [envT_lt hu, h1]
      simp only [Nat.not_lt_zero, if_false, Nat.sub_zero]
      cases args[u]? with
      | some d => rfl
      | none =>
        have : (pre.find? fun p => p.1 == u) = none := by
          rw [List.find?_eq_none]
          intro p hm
          have := hbig p hm
          simp only [beq_iff_eq]; omega
        simp only [this]; rfl
    · have hge : NAM ≤ u := by omega
      have hbn : BIG ≤ NAM := by decide
      rw [envT_at hge, hOf_find, List.getElem?_eq_none (by omega)]
      cases hfd : pre.find? fun p => p.1 == u with
      | none => rfl
      | some p =>
        have := hp p (List.mem_of_find?_eq_some hfd)
        simp only
        cases hs : p.2 <;> rw [hs] at this <;> first | rfl | cases this
  rw [e]
  refine vc_mono (xcode_sound htt hNB h2) ?_
  rintro e env ⟨t', h', rfl, hk⟩
  have key : (resvK tt t' fn.results.toList fun cs => Leaf (fitsL P cs res ∧ postL h' post)) → (∃ cs, vres P (envT t' h') fn.results.toList = some cs ∧ fitsL P cs res) ∧ ∀ p ∈ post, envT t' h' p.1 = p.2 := by
    intro hk
    obtain ⟨cs, h1, ⟨h2, h3⟩⟩ := resvK_spec (h := h') htt hk
    exact ⟨⟨cs, h1, h2⟩, postL_spec h3 hq⟩
  cases e with
  | normal => exact ⟨.inl rfl, key hk⟩
  | ret => exact ⟨.inr rfl, key hk⟩
  | _ => exact hk.elim
theorem xfn (htt : TTok P tt) {f : FuncId} {fn : Func} {c : Code} {args : List D} {res : List C} {rs : List ResultVar} (fb : List Nat) (hf : P.funcs[f]? = some fn) (hb : fn.body = some c) (hN : fn.ntmps = N) (hrs : fn.results.toList = rs) (hargs : args.length ≤ N) (hNB : N ≤ BIG)
    (hk : argsT 0 args .leaf fun t => xcode P tt N fb c t (fun _ => .junk) (finK P tt rs res [])) : Contract P f args res := by
  have hc := xfnH (pre := []) (post := []) htt fb hf hb hN hrs hargs hNB (by simp) (by simp) (by simp) hk
  intro ro w vs τ h1 h2 h3 h4
  refine (hc ro w vs τ h1 h2 h3 h4 (by simp)).mono ?_
  rintro e w' ⟨v, ro', rfl, hg, hs, _⟩
  exact ⟨v, ro', rfl, hg.plain, hs⟩
end
end Go.Vm
end
section
namespace Go.Vm
open Go.RowKit
section
variable {P : Program} {T : TypeId} {x y : Operand}
theorem x_bin {op : BinOp} {u v r : Value} {K : Value → Prop} (h : pureRun P (do eqGuard op T x y u v; binOp op T u v : Sem Value) = some r) (hp : plainV r = true) (hK : K r) : ∃ r, pureRun P (do eqGuard op T x y u v; binOp op T u v : Sem Value) = some r ∧ plainV r = true ∧ K r := ⟨r, h, hp, hK⟩
theorem x_add {k : IntKind} {a b c : Int} {K : Value → Prop} (hK : K (.int k c)) (h : k.wrap (a + b) = c := by first | exact IntWalk.i64_in _ (by first | omega | (simp only [List.length_map, List.length_append, List.length_nil, List.length_cons, List.length_take, List.length_drop]; omega)) | rfl) : ∃ r, pureRun P (do eqGuard .add T x y (.int k a) (.int k b); binOp .add T (.int k a) (.int k b) : Sem Value) = some r ∧ plainV r = true ∧ K r := ⟨_, pr_add h, rfl, hK⟩
theorem x_inc {n : Nat} {K : Value → Prop} (hK : K (.int .i64 ((n + 1 : Nat) : Int))) (h : n + 1 ≤ 9223372036854775807 := by first | omega | (simp only [List.length_map, List.length_append, List.length_nil, List.length_cons, List.length_take, List.length_drop]; omega)) : ∃ r, pureRun P (do eqGuard .add T x y (.int .i64 (n : Int)) (.int .i64 1); binOp .add T (.int .i64 (n : Int)) (.int .i64 1) : Sem Value) = some r ∧ plainV r = true ∧ K r := ⟨_, pr_add (IntWalk.i64_in _ (by omega)), rfl, hK⟩
theorem x_eqS {op : BinOp} {du dv : D} {u v r : Value} {K : Value → Prop} (hu : conc du = some u) (hv : conc dv = some v) (h : ∀ w, (do eqGuard op T x y u v; binOp op T u v : Sem Value).run P w = .ok r w) (hp : plainV r = true) (hK : K r) :
    ∃ u v r, (conc du = some u ∧ conc dv = some v) ∧ (∀ w, (do eqGuard op T x y u v; binOp op T u v : Sem Value).run P w = .ok r w) ∧ plainV r = true ∧ K r := ⟨u, v, r, ⟨hu, hv⟩, h, hp, hK⟩
end
theorem x_ix {xs : List D} {j : Nat} {y : D} {i : Int} {K : Nat → D → Prop} (hy : xs[j]? = some y) (hK : K j y) (hi : i = (j : Int) := by rfl) : ∃ (j : Nat) (y : D), i = (j : Int) ∧ xs[j]? = some y ∧ K j y := ⟨j, y, hi, hy, hK⟩
theorem x_ixI {xs : List D} {y : D} {i : Int} {K : Nat → D → Prop} (hy : xs[i.toNat]? = some y) (hK : K i.toNat y) (h0 : 0 ≤ i := by omega) : ∃ (j : Nat) (y : D), i = (j : Int) ∧ xs[j]? = some y ∧ K j y := ⟨i.toNat, y, (Int.toNat_of_nonneg h0).symm, hy, hK⟩
theorem x_ch {s : ByteArray} {j : Nat} {y : UInt8} {i : Int} {K : Nat → UInt8 → Prop} (hy : s[j]? = some y) (hK : K j y) (hi : i = (j : Int) := by rfl) : ∃ (j : Nat) (y : UInt8), i = (j : Int) ∧ s[j]? = some y ∧ K j y := ⟨j, y, hi, hy, hK⟩
theorem x_chI {s : ByteArray} {y : UInt8} {i : Int} {K : Nat → UInt8 → Prop} (hy : s[i.toNat]? = some y) (hK : K i.toNat y) (h0 : 0 ≤ i := by omega) : ∃ (j : Nat) (y : UInt8), i = (j : Int) ∧ s[j]? = some y ∧ K j y := ⟨i.toNat, y, (Int.toNat_of_nonneg h0).symm, hy, hK⟩
theorem x_bnd {i : Int} {j : Nat} {K : Nat → Prop} (hK : K j) (hi : i = (j : Int) := by rfl) : ∃ j : Nat, i = (j : Int) ∧ K j := ⟨j, hi, hK⟩
theorem x_bndI {i : Int} {K : Nat → Prop} (hK : K i.toNat) (h0 : 0 ≤ i := by omega) : ∃ j : Nat, i = (j : Int) ∧ K j := ⟨i.toNat, (Int.toNat_of_nonneg h0).symm, hK⟩
theorem x_len {α : Type} {a n : α} {K : α → Prop} (hK : K n) (h : a = n := by first | exact List.length_map .. | rfl) : ∃ n, a = n ∧ K n := ⟨n, h, hK⟩
theorem x_str {s s' : ByteArray} {l hh : Nat} {K : ByteArray → Prop} (hK : K s') (h1 : l ≤ hh := by first | omega | (simp only [List.length_map, List.length_append, List.length_nil, List.length_cons, List.length_take, List.length_drop]; omega)) (h2 : hh ≤ s.size := by first | omega | (simp only [List.length_map, List.length_append, List.length_nil, List.length_cons, List.length_take, List.length_drop]; omega)) (hy : s.extract l hh = s' := by rfl) : l ≤ hh ∧ hh ≤ s.size ∧ ∃ s', s.extract l hh = s' ∧ K s' := ⟨h1, h2, s', hy, hK⟩
theorem x_cat {a b : ByteArray} {K : Prop} (hK : K) (h : a.size + b.size ≤ 9223372036854775807 := by first | omega | (simp only [List.length_map, List.length_append, List.length_nil, List.length_cons, List.length_take, List.length_drop]; omega)) : a.size + b.size ≤ 9223372036854775807 ∧ K := ⟨h, hK⟩
theorem x_call {P : Program} {f : FuncId} {ds : List D} {res : List C} {K : List C → Prop} (he : enters P f = true) (hc : Contract P f ds res) (hK : K res) : ∃ res, (enters P f = true ∧ Contract P f ds res) ∧ K res := ⟨res, ⟨he, hc⟩, hK⟩
theorem Sim.nil_own {P : Program} {N base : Nat} {w0 : World} {ro0 : Start} {env : Env} {a : Act} {w : World} (h : Sim P N base w0 ro0 env a w) {u : Nat} {τ e : Nat} (hu : env u = .c .nil) (he : 0 < P.cellsOf e) : Sim P N base w0 ro0 (upd env (some u) (.c (.own τ e []))) a w := by
  obtain ⟨ro, blk, h⟩ := h
  refine ⟨ro, blk, h.below, h.room, h.nodef, h.size, h.old, h.new, h.uniq, h.given, fun t ht => ?_, fun t => ?_⟩
  · by_cases et : t = u
    · subst et; simp [upd] at ht
    · simp only [upd, if_neg et] at ht; exact h.left t ht
  · have hs := h.sat t
    by_cases et : t = u
    · subst et
      rw [hu] at hs
      simp only [upd, if_true]
      have hv : a.tmps.getD t undef = .slice none 0 0 := hs
      exact ⟨P.cellsOf e, [], he, rfl, by rw [hv]; exact World.ownsRow_nil w base e _, by simp, by simpa [flat] using Reps.nil, fun g hg => by rw [hv] at hg; simp [Value.ownBlock] at hg⟩
    · simp only [upd, if_neg et]; exact hs
theorem x_rnd {σ : Type} {L : List Nat} {F : σ → List (Nat × S)} {G : σ → Hp} {I : σ → Prop} {μ : σ → Nat} {t0 t : Tr} {h : Hp} {m : Nat} (s : σ) (hI : I s) (hm : μ s < m) (hL : L.map t.get = L.map t0.get) (hE : ent t (F s)) (hG : G s = h) : ∃ s, I s ∧ μ s < m ∧ L.map t.get = L.map t0.get ∧ ent t (F s) ∧ G s = h := ⟨s, hI, hm, hL, hE, hG⟩
theorem x_ent {t : Tr} {a : Nat} {s : S} {F : List (Nat × S)} (h : t.get a = s) (h' : ent t F) : ent t ((a, s) :: F) := ⟨h, h'⟩
theorem x_ret {P : Program} {cs res : List C} {h : Hp} (hf : fitsL P cs res) : Leaf (fitsL P cs res ∧ postL h []) := ⟨hf, trivial⟩
class BP (b : Bool) (p q : outParam Prop) : Prop where
  yes : b = true → p
  no : b = false → q
instance bp_dec (p : Prop) [d : Decidable p] : BP (@decide p d) p (¬ p) := ⟨of_decide_eq_true, of_decide_eq_false⟩
instance bp_not (b : Bool) (p q : Prop) [h : BP b p q] : BP (!b) q p := ⟨fun e => h.no (by cases b <;> simp_all), fun e => h.yes (by cases b <;> simp_all)⟩
instance (priority := low) bp_any (b : Bool) : BP b (b = true) (b = false) := ⟨id, id⟩
theorem br {b : Bool} {p q A B : Prop} [h : BP b p q] (hA : p → A) (hB : q → B) : (b = true → A) ∧ (b = false → B) := ⟨fun e => hA (h.yes e), fun e => hB (h.no e)⟩
theorem brT {A B : Prop} (hA : A) : (true = true → A) ∧ (true = false → B) := ⟨fun _ => hA, fun h => nomatch h⟩
theorem brF {A B : Prop} (hB : B) : (false = true → A) ∧ (false = false → B) := ⟨(fun h => nomatch h), fun _ => hB⟩
end Go.Vm
end
section
namespace Go.Vm
instance lawfulBytes : LawfulBEq ByteArray where
  eq_of_beq := by intro a b h; rw [beq_toListBytes, eq_strs] at h; exact of_decide_eq_true h
  rfl := by intro a; rw [beq_toListBytes, eq_strs]; simp
structure RefD where
  scope : Int
  group : ByteArray
  name : ByteArray
  deriving DecidableEq
structure FieldD where
  at_ : RefD
  kind : Int
  deft : ByteArray
  cases : List ByteArray
  worth : Int
  deriving DecidableEq
structure LensD where
  kind : Int
  at_ : RefD
  name : ByteArray
  other : ByteArray
  factor : Int
  field : FieldD
  forth : List (ByteArray × ByteArray)
  back : List (ByteArray × ByteArray)
  deriving DecidableEq
abbrev noB : ByteArray := ⟨#[]⟩
def noRef : RefD := ⟨0, noB, noB⟩
def noField : FieldD := ⟨noRef, 0, noB, [], 0⟩
def noLens : LensD := ⟨0, noRef, noB, noB, 0, noField, [], []⟩
def pairD (p : ByteArray × ByteArray) : D := .agg [.sc (.string p.1), .sc (.string p.2)]
def rD (r : RefD) : D := .agg [.sc (.int .i64 r.scope), .sc (.string r.group), .sc (.string r.name)]
def fD (f : FieldD) : D := .agg [.sc (.int .i64 f.at_.scope), .sc (.string f.at_.group), .sc (.string f.at_.name), .sc (.int .i64 f.kind), .sc (.string f.deft), .row (f.cases.map strD), .sc (.int .i64 f.worth)]
def lD (x : LensD) : D := .agg [.sc (.int .i64 x.kind), .sc (.int .i64 x.at_.scope), .sc (.string x.at_.group), .sc (.string x.at_.name), .sc (.string x.name), .sc (.string x.other), .sc (.int .i64 x.factor),
  .sc (.int .i64 x.field.at_.scope), .sc (.string x.field.at_.group), .sc (.string x.field.at_.name), .sc (.int .i64 x.field.kind), .sc (.string x.field.deft), .row (x.field.cases.map strD), .sc (.int .i64 x.field.worth), .row (x.forth.map pairD), .row (x.back.map pairD)]
def charB (c : Int) (j : Nat) : Bool := (decide (97 ≤ c) && decide (c ≤ 122)) || (decide (48 ≤ c) && decide (c ≤ 57) && !decide (j = 0))
def okTo (s : ByteArray) (k : Nat) : Prop := ∀ j (b : UInt8), j < k → s[j]? = some b → charB b.toNat j = true
def nameB (s : ByteArray) : Bool := decide (1 ≤ s.size ∧ s.size ≤ 12) && (List.range s.size).all fun j => match s[j]? with
  | some b => charB b.toNat j
  | none => true
theorem name_yes {s : ByteArray} {k : Nat} (h1 : 1 ≤ s.size) (h2 : s.size ≤ 12) (hk : s.size ≤ k) (h : okTo s k) : nameB s = true := by
  unfold nameB
  rw [decide_eq_true (show 1 ≤ s.size ∧ s.size ≤ 12 from ⟨h1, h2⟩), Bool.true_and, List.all_eq_true]
  intro j hj
  split
  · rename_i b hb; exact h j b (by have := List.mem_range.1 hj; omega) hb
  · rfl
theorem name_no {s : ByteArray} {j : Nat} {b : UInt8} (hj : j < s.size) (hb : s[j]? = some b) (h : charB b.toNat j = false) : nameB s = false := by
  unfold nameB
  rw [Bool.and_eq_false_iff]
  right
  rw [List.all_eq_false]
  exact ⟨j, List.mem_range.2 hj, by rw [hb]; simp [h]⟩
theorem name_short {s : ByteArray} (h : s.size < 1) : nameB s = false := by unfold nameB; rw [decide_eq_false (fun k => by omega)]; rfl
theorem name_long {s : ByteArray} (h : 12 < s.size) : nameB s = false := by unfold nameB; rw [decide_eq_false (fun k => by omega)]; rfl
theorem okTo_zero (s : ByteArray) : okTo s 0 := fun j b hj => by omega
theorem okTo_next {s : ByteArray} {k : Nat} {b : UInt8} (h : okTo s k) (hb : s[k]? = some b) (hc : charB b.toNat k = true) : okTo s (k + 1) := by
  intro j b' hj hb'
  by_cases e : j = k
  · subst e; rw [hb] at hb'; injection hb' with e; subst e; exact hc
  · exact h j b' (by omega) hb'
theorem char_lt {s : ByteArray} {k : Nat} {b : UInt8} (h : s[k]? = some b) : k < s.size := by
  rcases Nat.lt_or_ge k s.size with h1 | h1
  · exact h1
  · simp [show ¬ k < s.size by omega] at h
def placeB (r : RefD) : Bool := (decide (r.scope = 0) || decide (r.scope = 1)) && nameB r.name && (decide (r.group = noB) || nameB r.group)
def ltB (a b : ByteArray) : Bool := Op.bytesLess a.toList b.toList
def lessB (a b : RefD) : Bool := if a.scope ≠ b.scope then decide (a.scope < b.scope) else if a.group ≠ b.group then ltB a.group b.group else ltB a.name b.name
def okC (l : List ByteArray) (k : Nat) : Bool := (List.range k).all fun j => match l[j]? with
  | some c => nameB c && !decide (c ∈ l.take j)
  | none => true
def casesB (l : List ByteArray) : Bool := decide (1 ≤ l.length) && decide (l.length ≤ 6) && okC l l.length
def rightF (f : FieldD) : Bool := placeB f.at_ &&
  (if f.kind = 1 then decide (f.deft = noB) && decide (f.cases.length = 0) && decide (1 ≤ f.worth) && decide (f.worth ≤ 1048576)
   else if f.kind = 2 then decide (f.deft.size ≤ 40) && decide (f.cases.length = 0) && decide (f.worth = 0)
   else if f.kind = 3 then casesB f.cases && decide (f.deft ∈ f.cases) && decide (f.worth = 0)
   else if f.kind = 4 then decide (f.deft = noB) && decide (f.cases.length = 0) && decide (f.worth = 0)
   else false)
end Go.Vm
end
