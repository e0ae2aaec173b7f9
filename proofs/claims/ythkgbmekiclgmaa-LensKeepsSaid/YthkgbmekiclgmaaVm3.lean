/- The plain reading: loads, addresses, lengths, slicing, literals. -/
import Derived.Test.YthkgbmekiclgmaaVm2
namespace Go.Vm
open Go.RowKit
set_option linter.unusedVariables false
set_option linter.unusedSimpArgs false

/-- A type's shape: has it cells (a struct, an array); how many cells. -/
def isAggD : TypeDesc → Bool
  | .struct _ | .array _ _ => true
  | _ => false
def tshape (P : Program) (t : TypeId) : Option (Bool × Nat) := match P.info? t, P.underlying t with
  | some i, some d => some (isAggD d, i.size)
  | _, _ => none
def partD (sh : Bool × Nat) (cs : List D) (off : Nat) : Option D :=
  if sh.1 then (if off + sh.2 ≤ cs.length then some (.agg ((cs.drop off).take sh.2)) else none) else cs[off]?
def patch (cs : List D) (off : Nat) (ds : List D) : List D := cs.take off ++ ds ++ cs.drop (off + ds.length)
def fieldOff (P : Program) (t : TypeId) (f : Nat) : Option Nat := match P.underlying t with
  | some (.struct fs) => match fs[f]? with
    | some g => if P.cellsOf g.type = 0 then none else some g.offset
    | none => none
  | _ => none
def elemSize (P : Program) (t : TypeId) : Option Nat := match P.underlying t with
  | some (.slice e) => (P.info? e).map (·.size)
  | _ => none
def arrShape (P : Program) (t : TypeId) : Option (Nat × Nat) := match P.underlying t with
  | some (.array n e) => (P.info? e).map fun i => (n, i.size)
  | _ => none

section
variable {P : Program} {N base : Nat} {w0 w w' : World} {ro0 ro ro' : Roles} {blk blk' : Nat → Nat} {env env' : Env} {a : Act} {o : Oper}

theorem tshape_parts {t : TypeId} {b : Bool} {n : Nat} (h : tshape P t = some (b, n)) : ∃ i d, P.info? t = some i ∧ P.underlying t = some d ∧ isAggD d = b ∧ i.size = n := by
  unfold tshape at h
  split at h
  · rename_i i d h1 h2
    simp only [Option.some.injEq, Prod.mk.injEq] at h
    exact ⟨i, d, h1, h2, h.1, h.2⟩
  · cases h

theorem run_isAgg {t : TypeId} {d : TypeDesc} (h : P.underlying t = some d) : (isAgg t).run P w = .ok (isAggD d) w := by
  unfold isAgg
  rw [Sem.run_bind, run_underlying h w]
  cases d <;> simp [isAggD]

theorem run_load_part {t : TypeId} {b o off : Nat} {us : List Value} {cs : List D} {sh : Bool × Nat} {d : D} (hsh : tshape P t = some sh) (hr : Reps ro w us cs)
    (hc : ∀ (j : Nat) (u : Value), us[j]? = some u → w.cell? ⟨b, o + j, none⟩ = some u) (hp : partD sh cs off = some d) : ∃ v, (loadVar t ⟨b, o + off, none⟩).run P w = .ok v w ∧ Rep ro w v d := by
  obtain ⟨ag, n⟩ := sh
  obtain ⟨i, dd, h1, h2, h3, h4⟩ := tshape_parts hsh
  have hagg := run_isAgg (w := w) h2
  rw [h3] at hagg
  cases ag with
  | true =>
    simp only [partD, if_true] at hp
    split at hp
    · rename_i hle
      injection hp with hp; subst hp
      have hk := (hr.drop off).take n
      have hlen : ((us.drop off).take n).length = n := by rw [List.length_take, List.length_drop, hr.1]; omega
      refine ⟨.agg ((us.drop off).take n).toArray, ?_, .agg (by simpa using hk.1) (by simpa using hk.2.1) (by simpa using hk.2.2)⟩
      have hl := run_loadCells_list (P := P) w ⟨b, o + off, none⟩ ((us.drop off).take n) (fun j v hv => by
        rw [List.getElem?_take] at hv
        split at hv
        · rw [List.getElem?_drop] at hv
          rw [add_spot, Nat.add_assoc]; exact hc _ _ hv
        · cases hv)
      rw [hlen] at hl
      simp [loadVar, Sem.run_bind, hagg, sizeOf, typeInfo, h1, h4, hl]
    · cases hp
  | false =>
    simp only [partD, Bool.false_eq_true, if_false] at hp
    have hlt := (List.getElem?_eq_some_iff.1 hp).1
    have hlt' : off < us.length := by rw [hr.1]; exact hlt
    obtain ⟨u, hu⟩ : ∃ u, us[off]? = some u := ⟨_, List.getElem?_eq_getElem hlt'⟩
    refine ⟨u, ?_, hr.2.2 off _ d hu hp⟩
    have hcu := hc off _ hu
    simp [loadVar, Sem.run_bind, hagg, run_load, hcu, Result.andThen]

theorem BoxAt.cells {t b : Nat} {cs : List D} (h : BoxAt base ro w t b cs) : ∃ us, Reps ro w us cs ∧ ∀ (j : Nat) (u : Value), us[j]? = some u → w.cell? ⟨b, 0 + j, none⟩ = some u := by
  obtain ⟨_, _, arr, e, h3, h4⟩ := h
  refine ⟨arr.toList, h4, fun j u hu => ?_⟩
  rw [cell_of_row w b _ arr e (0, 0) h3, Nat.zero_add]
  simpa using hu

theorem y_load_ref {T : TypeId} {x : Operand} {t off : Nat} {cs : List D} {sh : Bool × Nat} {r : D} (hop : o.op = .load T x) (hx : vget env x = .ref t off) (hb : env t = .box cs) (hsh : tshape P T = some sh) (hp : partD sh cs off = some r) {d : Nat} (hdst : o.dst = some d) (hd : d < N) : Yield P N o env (.c (.d r)) := by
  refine yield_of hdst hd fun env' he base w0 ro0 ro blk a w hsim => ?_
  have h1 := hsim.get x 0
  rw [he.get (by simp [hop, Op.operands]), hx] at h1
  have h2 := hsim.sat t
  rw [he.2 x t off cs (by simp [addrOf, hop]) hx hb] at h2
  obtain ⟨us, h3, h4⟩ := h2.2.cells
  obtain ⟨v, h5, h6⟩ := run_load_part (P := P) hsh h3 h4 hp
  refine ⟨v, w, ro, ?_, Grow.refl hsim.new, h6⟩
  rw [Nat.zero_add] at h5
  simp only [execOp, hop, Instr.loadAt, show a.eval x = _ from h1, Instr.sureAddr, Sem.run_bind, Sem.run_pure, Result.andThen_ok, h5]
theorem y_load_at {T : TypeId} {x : Operand} {off : Nat} {cs : List D} {sh : Bool × Nat} {r : D} (hop : o.op = .load T x) (hx : vget env x = .at_ cs off) (hsh : tshape P T = some sh) (hp : partD sh cs off = some r) {d : Nat} (hdst : o.dst = some d) (hd : d < N) : Yield P N o env (.c (.d r)) := by
  refine yield_of hdst hd fun env' he base w0 ro0 ro blk a w hsim => ?_
  have h1 := hsim.get x 0
  rw [he.get (by simp [hop, Op.operands]), hx] at h1
  obtain ⟨b, off0, us, h1, h3, h4⟩ := h1
  obtain ⟨v, h5, h6⟩ := run_load_part (P := P) hsh h3 (fun j u hu => (h4 j u hu).1) hp
  refine ⟨v, w, ro, ?_, Grow.refl hsim.new, h6⟩
  simp only [execOp, hop, Instr.loadAt, show a.eval x = _ from h1, Instr.sureAddr, Sem.run_bind, Sem.run_pure, Result.andThen_ok, h5]

theorem run_fieldAt {T : TypeId} {f off b o : Nat} (h : fieldOff P T f = some off) : (Instr.fieldAt T (.pointer (some ⟨b, o, none⟩)) f).run P w = .ok (.pointer (some ⟨b, o + off, none⟩)) w := by
  unfold fieldOff at h
  split at h
  · rename_i fs hu
    split at h
    · rename_i g hg
      split at h
      · cases h
      · rename_i hne
        injection h with h
        have hi : ∃ i, P.info? g.type = some i ∧ i.size ≠ 0 := by
          unfold Program.cellsOf at hne
          cases hq : P.info? g.type with
          | none => simp [hq] at hne
          | some i => exact ⟨i, rfl, by simpa [hq] using hne⟩
        obtain ⟨i, hi, h0⟩ := hi
        simp [Instr.fieldAt, run_underlying hu, hg, Instr.sureAddr, fieldPlace, sizeOf, typeInfo, hi, h0, Addr.add_lit, h]
    · cases h
  · cases h
theorem y_field_ref {T : TypeId} {x : Operand} {f t off k : Nat} (hop : o.op = .fieldAddr T x f) (hx : vget env x = .ref t off) (hf : fieldOff P T f = some k) {d : Nat} (hdst : o.dst = some d) (hd : d < N) : Yield P N o env (.ref t (off + k)) := by
  refine yield_of hdst hd fun env' he base w0 ro0 ro blk a w hsim => ?_
  have h1 := hsim.get x 0
  rw [he.get (by simp [hop, Op.operands]), hx] at h1
  refine ⟨_, w, ro, ?_, Grow.refl hsim.new, rfl⟩
  simp only [execOp, hop, show a.eval x = _ from h1, Sem.run_bind, Sem.run_pure, Result.andThen_ok, run_fieldAt hf]
theorem y_field_at {T : TypeId} {x : Operand} {f off k : Nat} {cs : List D} (hop : o.op = .fieldAddr T x f) (hx : vget env x = .at_ cs off) (hf : fieldOff P T f = some k) {d : Nat} (hdst : o.dst = some d) (hd : d < N) : Yield P N o env (.at_ cs (off + k)) := by
  refine yield_of hdst hd fun env' he base w0 ro0 ro blk a w hsim => ?_
  have h1 := hsim.get x 0
  rw [he.get (by simp [hop, Op.operands]), hx] at h1
  obtain ⟨b, off0, us, h1, h3, h4⟩ := h1
  refine ⟨.pointer (some ⟨b, off0 + off + k, none⟩), w, ro, ?_, Grow.refl hsim.new, b, off0, us, by rw [Nat.add_assoc], h3, h4⟩
  simp only [execOp, hop, show a.eval x = _ from h1, Sem.run_bind, Sem.run_pure, Result.andThen_ok, run_fieldAt hf]

theorem elemSize_parts {t : TypeId} {n : Nat} (h : elemSize P t = some n) : ∃ e i, P.underlying t = some (.slice e) ∧ P.info? e = some i ∧ i.size = n := by
  unfold elemSize at h
  split at h
  · rename_i e hu
    obtain ⟨i, h1, h2⟩ := Option.map_eq_some_iff.1 h
    exact ⟨e, i, hu, h1, h2⟩
  · cases h

theorem rep_row {v : Value} {xs : List D} (h : Rep ro w v (.row xs)) : ∃ ad cap, v = .slice ad xs.length cap ∧ cap ≤ maxLen ∧ xs.length ≤ cap ∧ (xs ≠ [] → ∃ b off sz us, ad = some ⟨b, off, none⟩ ∧ 0 < sz ∧ us.length = xs.length * sz ∧ (∀ x ∈ xs, x.cells.length = sz) ∧ Reps ro w us (flat xs) ∧ ∀ (j : Nat) (u : Value), us[j]? = some u → w.cell? ⟨b, off + j, none⟩ = some u ∧ okAt ro b (off + j)) := by
  cases h with
  | nil hm => exact ⟨_, _, rfl, hm, Nat.zero_le _, fun h => absurd rfl h⟩
  | row us hsz hlen hm hus hw h1 hcell h => exact ⟨_, _, rfl, hm, hlen, fun _ => ⟨_, _, _, us, rfl, hsz, hus, hw, ⟨by rw [hus, flat_length hw], h1, h⟩, hcell⟩⟩

theorem y_index {T : TypeId} {x ix : Operand} {k : IntKind} {i : Nat} {xs : List D} {y : D} {sz : Nat} (hop : o.op = .indexAddr T x ix) (hx : vd env x = some (.row xs)) (hi : vd env ix = some (.sc (.int k (i : Int)))) (hT : elemSize P T = some sz) (hy : xs[i]? = some y) (hsz : y.cells.length = sz) {d : Nat} (hdst : o.dst = some d) (hd : d < N) : Yield P N o env (.at_ y.cells 0) := by
  refine yield_of hdst hd fun env' he base w0 ro0 ro blk a w hsim => ?_
  have h1 := hsim.getD (x := x) (by rw [he.getD (by simp [hop, Op.operands])]; exact hx)
  have h2 := (rep_sc (hsim.getD (x := ix) (by rw [he.getD (by simp [hop, Op.operands])]; exact hi))).1
  obtain ⟨e, inf, hu, hinf, hs⟩ := elemSize_parts hT
  obtain ⟨ad, cap, hv, _, _, h3⟩ := rep_row h1
  have hlt := (List.getElem?_eq_some_iff.1 hy).1
  obtain ⟨b, off, sz', us, rfl, h4, h5, h6, h7, h8⟩ := h3 (by intro e; rw [e] at hlt; simp at hlt)
  have hmem : y ∈ xs := List.mem_of_getElem? hy
  obtain rfl : sz' = sz := (h6 y hmem).symm.trans hsz
  subst hs
  refine ⟨.pointer (some ⟨b, off + i * inf.size, none⟩), w, ro, ?_, Grow.refl hsim.new, b, off + i * inf.size, (us.drop (i * inf.size)).take inf.size, rfl, ?_, ?_⟩
  · have hlt' : (i : Int) < xs.length := by omega
    simp [execOp, hop, h2, hv, Instr.indexAt, asIntOf, run_underlying hu, sizeOf, typeInfo, hinf, Addr.add_lit]
    intro hbad; omega
  · have hle : i * inf.size + inf.size ≤ us.length := by
      rw [h5]; have := Nat.mul_le_mul_right inf.size (show i + 1 ≤ xs.length from hlt); rw [Nat.add_mul, Nat.one_mul] at this; exact this
    refine ⟨by rw [List.length_take, List.length_drop, hsz]; omega, fun u hu => h7.2.1 u (List.mem_of_mem_drop (List.mem_of_mem_take hu)), fun j u c hu hc => ?_⟩
    rw [List.getElem?_take] at hu
    split at hu
    · rw [List.getElem?_drop] at hu
      exact h7.2.2 _ u c hu (flat_at h6 hy hc)
    · cases hu
  · intro j u hu
    rw [List.getElem?_take] at hu
    split at hu
    · rw [List.getElem?_drop] at hu
      have := h8 _ u hu
      rwa [← Nat.add_assoc] at this
    · cases hu

theorem y_len {T : TypeId} {ts : Array TypeId} {x : Operand} {xs : List D} {sz : Nat} (hop : o.op = .call { callee := .builtin .len, args := #[x], argTypes := #[T] }) (hx : vd env x = some (.row xs)) (hT : elemSize P T = some sz) {d : Nat} (hdst : o.dst = some d) (hd : d < N) : Yield P N o env (.c (.d (.sc (.int .i64 xs.length)))) := by
  refine yield_of hdst hd fun env' he base w0 ro0 ro blk a w hsim => ?_
  have h1 := hsim.getD (x := x) (by rw [he.getD (by simp [hop, Op.operands, Call.operands])]; exact hx)
  obtain ⟨e, inf, hu, hinf, hs⟩ := elemSize_parts hT
  obtain ⟨ad, cap, hv, _⟩ := rep_row h1
  refine ⟨.int .i64 xs.length, w, ro, ?_, Grow.refl hsim.new, Rep.sc rfl⟩
  simp [execOp, hop, resolve, invoke, builtin, hv, Builtin.len_, run_underlying hu, goInt]
theorem y_lens {T : TypeId} {x : Operand} {s : ByteArray} (hop : o.op = .call { callee := .builtin .len, args := #[x], argTypes := #[T] }) (hx : vd env x = some (.sc (.string s))) (hT : P.underlying T = some .string) {d : Nat} (hdst : o.dst = some d) (hd : d < N) : Yield P N o env (.c (.d (.sc (.int .i64 s.size)))) := by
  refine yield_of hdst hd fun env' he base w0 ro0 ro blk a w hsim => ?_
  have h1 := (rep_sc (hsim.getD (x := x) (by rw [he.getD (by simp [hop, Op.operands, Call.operands])]; exact hx))).1
  refine ⟨.int .i64 s.size, w, ro, ?_, Grow.refl hsim.new, Rep.sc rfl⟩
  simp [execOp, hop, resolve, invoke, builtin, h1, Builtin.len_, run_underlying hT, goInt]

theorem y_extract {x : Operand} {i : Nat} {cs : List C} {c : C} (hop : o.op = .extract x i) (hx : vget env x = .tup cs) (hi : cs[i]? = some c) {d : Nat} (hdst : o.dst = some d) (hd : d < N) : Yield P N o env (.c c) := by
  refine yield_of hdst hd fun env' he base w0 ro0 ro blk a w hsim => ?_
  have h1 := hsim.get x 0
  rw [he.get (by simp [hop, Op.operands]), hx] at h1
  obtain ⟨arr, h1, h2, h3⟩ := h1
  have hlt : i < arr.size := by rw [h2]; exact (List.getElem?_eq_some_iff.1 hi).1
  have hu : arr[i]? = some arr[i] := Array.getElem?_eq_getElem hlt
  refine ⟨arr[i], w, ro, ?_, Grow.refl hsim.new, h3 i _ c (by simp [hlt]) hi⟩
  simp [execOp, hop, show a.eval x = _ from h1, Instr.extract, hu]

theorem y_char {T : TypeId} {x ix : Operand} {k : IntKind} {i : Nat} {s : ByteArray} {b : UInt8} (hop : o.op = .index T x ix) (hx : vd env x = some (.sc (.string s))) (hi : vd env ix = some (.sc (.int k (i : Int)))) (hT : P.underlying T = some .string) (hb : s[i]? = some b) {d : Nat} (hdst : o.dst = some d) (hd : d < N) : Yield P N o env (.c (.d (.sc (.int .u8 b.toNat)))) := by
  refine yield_of hdst hd fun env' he base w0 ro0 ro blk a w hsim => ?_
  have h1 := (rep_sc (hsim.getD (x := x) (by rw [he.getD (by simp [hop, Op.operands])]; exact hx))).1
  have h2 := (rep_sc (hsim.getD (x := ix) (by rw [he.getD (by simp [hop, Op.operands])]; exact hi))).1
  refine ⟨_, w, ro, ?_, Grow.refl hsim.new, Rep.sc rfl⟩
  simp [execOp, hop, h1, h2, Instr.index, asIntOf, run_underlying hT, hb]
end
end Go.Vm
