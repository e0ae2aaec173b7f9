/- Part 4 of what the proof of ShopNil stands on: Xg3, Xg4, Xg5, Xg6, Xg7, Xg8, Bridge, HmX, Ft, HmSum, HmAwk29, HmY, LnPlain. -/
import Derived.IntWalk
import Derived.Test.YtfnkaiagadgngaaGreatProg
import Derived.KernelRfl
import Derived.Laws.StructEq
import Derived.Test.YtfnkaiagadgngaaGreatShopNilM3
set_option linter.unusedVariables false
set_option linter.unusedSimpArgs false
set_option maxHeartbeats 1000000
section
namespace Go.Vm
open Go.RowKit
def FieldOk (P : Program) (T : TypeId) (f : Nat) (off : Nat) (sh : Bool × Nat) : Prop := ∃ fs g, P.underlying T = some (.struct fs) ∧ fs[f]? = some g ∧ tshape P g.type = some sh ∧ g.offset = off
theorem y_fieldv {P : Program} {N : Nat} {env : Env} {o : Oper} {T : TypeId} {x : Operand} {f off : Nat} {cs : List D} {sh : Bool × Nat} {r : D} (hop : o.op = .field T x f) (hx : vd env x = some (.agg cs)) (hf : FieldOk P T f off sh) (hp : partD sh cs off = some r) {d : Nat} (hdst : o.dst = some d) (hd : d < N) : Yield P N o env (.c (.d r)) := by
  refine yield_of hdst hd fun env' he base w0 ro0 ro blk a w hsim => ?_
  have h1 := hsim.getD (x := x) (by rw [he.getD (by simp [hop, Op.operands])]; exact hx)
  obtain ⟨fs, g, hu, hg, hsh, rfl⟩ := hf
  obtain ⟨ag, n⟩ := sh
  obtain ⟨i, dd, k1, k2, k3, k4⟩ := tshape_parts hsh
  have hagg := run_isAgg (w := w) k2
  rw [k3] at hagg
  generalize hv : a.eval x = v at h1
  cases h1 with
  | agg hl h1 h =>
    rename_i arr
    cases ag with
    | true =>
      simp only [partD, if_true] at hp
      split at hp
      · rename_i hle
        injection hp with hp; subst hp
        have hr : Reps ro w arr.toList cs := ⟨by simpa using hl, h1, h⟩
        have hk := (hr.drop g.offset).take n
        refine ⟨.agg (arr.extract g.offset (g.offset + n)), w, ro, ?_, Grow.refl hsim.new, .agg (by simp; omega) ?_ ?_⟩
        · simp [execOp, hop, hv, Instr.field, run_underlying hu, hg, asAgg, part, Sem.run_bind, hagg, sizeOf, typeInfo, k1, k4]
        · intro u hu
          exact h1 u (by
            have : u ∈ (arr.toList.drop g.offset).take n := by simpa [Array.toList_extract, List.extract_eq_take_drop] using hu
            exact List.mem_of_mem_drop (List.mem_of_mem_take this))
        · intro j u c hu hc
          refine hk.2.2 j u c ?_ hc
          simpa [Array.toList_extract, List.extract_eq_take_drop] using hu
      · cases hp
    | false =>
      simp only [partD, Bool.false_eq_true, if_false] at hp
      have hlt := (List.getElem?_eq_some_iff.1 hp).1
      have hlt' : g.offset < arr.size := by omega
      have hu' : arr[g.offset]? = some arr[g.offset] := Array.getElem?_eq_getElem hlt'
      refine ⟨arr[g.offset], w, ro, ?_, Grow.refl hsim.new, h g.offset _ _ (by simp [hlt']) hp⟩
      simp [execOp, hop, hv, Instr.field, run_underlying hu, hg, asAgg, part, Sem.run_bind, hagg, hu']
def uloadK (sh : Bool × Nat) (cs : List D) (off : Nat) (K : S → Prop) : Prop := match sh.1 with
  | false => nthK cs off fun d => match d with
    | .rr a b c => K (.sref a b c)
    | .sc v => K (.c (.d (.sc v)))
    | .row xs => K (.c (.d (.row xs)))
    | _ => False
  | true => partK sh cs off fun r => match List.all (D.cells r) plainD with
    | true => K (.c (.d r))
    | false => False
theorem uloadK_spec {sh : Bool × Nat} {cs : List D} {off : Nat} {K : S → Prop} (h : uloadK sh cs off K) : (∃ r, partD sh cs off = some r ∧ (r.cells).all plainD = true ∧ K (.c (.d r))) ∨ ∃ a b c, sh.1 = false ∧ cs[off]? = some (.rr a b c) ∧ K (.sref a b c) := by
  obtain ⟨ag, n⟩ := sh
  cases ag with
  | false =>
    simp only [uloadK] at h
    obtain ⟨d, h1, h2⟩ := nthK_spec h
    cases d with
    | rr a b c => exact .inr ⟨a, b, c, rfl, h1, h2⟩
    | sc v => exact .inl ⟨_, by simpa [partD] using h1, rfl, h2⟩
    | row xs => exact .inl ⟨_, by simpa [partD] using h1, rfl, h2⟩
    | _ => exact h2.elim
  | true =>
    simp only [uloadK] at h
    obtain ⟨r, h1, h2⟩ := partK_spec h
    split at h2
    · rename_i hp; exact .inl ⟨r, h1, hp, h2⟩
    · exact h2.elim
def yK (P : Program) (tt : TT) (N d : Nat) (o : Oper) (t : Tr) (h : Hp) (K : S → Prop) : Prop := match o.op with
  | .move x => ovK t x K
  | .assign x => ovK t x K
  | .pick x y z => vK t x fun v => match v with
    | .bool true => ovK t y K
    | .bool false => ovK t z K
    | _ => False
  | .binOp op T x y T' => dK t x fun du => dK t y fun dv => match du, dv with
    | .sc u, .sc v => binK P op T x y u v fun r => K (.c (.d (.sc r)))
    | .ptr _ _, dv => match op, y with
      | .eql, .const (.pointer none) => (∃ e, P.underlying T = some (.pointer e)) ∧ K (.c (.d (.sc (.bool false))))
      | .neq, .const (.pointer none) => (∃ e, P.underlying T = some (.pointer e)) ∧ K (.c (.d (.sc (.bool true))))
      | _, _ => False
    | .mp _, dv => match op, y with
      | .eql, .const (.map none) => (∃ k e, P.underlying T = some (.map k e)) ∧ K (.c (.d (.sc (.bool false))))
      | .neq, .const (.map none) => (∃ k e, P.underlying T = some (.map k e)) ∧ K (.c (.d (.sc (.bool true))))
      | _, _ => False
    | du, dv => ∃ u v r, (conc du = some u ∧ conc dv = some v) ∧ (∀ w, (do eqGuard op T x y u v; binOp op T u v : Sem Value).run P w = .ok r w) ∧ plainV r = true ∧ K (.c (.d (.sc r)))
  | .unOp op T x => vK t x fun u => match op, u with
    | .not, .bool b => K (.c (.d (.sc (.bool (!b)))))
    | op, u => ∃ r, pureRun P (Op.unary op u) = some r ∧ plainV r = true ∧ K (.c (.d (.sc r)))
  | .convert T T' x => vK t x fun u => ∃ r, pureRun P (convert T T' u) = some r ∧ plainV r = true ∧ K (.c (.d (.sc r)))
  | .load T x => match tt.get T with
    | some i => ovK t x fun s => match s with
      | .ref u off => match t.get u with
        | .box cs => match Nat.ble 1000000 u with
          | true => False
          | false => partK (shI i) cs off fun r => K (.c (.d r))
        | .ubox cs => match Nat.ble 1000000 u with
          | true => False
          | false => uloadK (shI i) cs off K
        | _ => False
      | .at_ cs off => partK (shI i) cs off fun r => K (.c (.d r))
      | .c (.d (.ptr id off)) => ∃ cs, (NAM ≤ id ∧ h id = .obj cs) ∧ partK (shI i) cs off fun r => K (.c (.d r))
      | _ => False
    | none => False
  | .fieldAddr T x f => match tt.get T with
    | some (.agg ps z) => match ps[f]? with
      | some (k, sz) => match Nat.beq sz 0 with
        | true => False
        | false => ovK t x fun s => match s with
          | .ref u off => K (.ref u (off + k))
          | .at_ cs off => K (.at_ cs (off + k))
          | .c (.d (.ptr id off)) => K (.c (.d (.ptr id (off + k))))
          | _ => False
      | none => False
    | _ => False
  | .indexAddr T x ix => match tt.get T with
    | some (.slice e sz bytes) => dK t x fun dx => match dx with
      | .row xs => vK t ix fun v => match v with
        | .int _ i => ∃ (j : Nat) (y : D), i = (j : Int) ∧ xs[j]? = some y ∧ cellsK y fun cs => match Nat.beq cs.length sz with
          | true => K (.at_ cs 0)
          | false => False
        | _ => False
      | _ => False
    | _ => False
  | .index T x ix => match tt.get T with
    | some .str => vK t x fun u => match u with
      | .string s => vK t ix fun v => match v with
        | .int _ i => ∃ (j : Nat) (b : UInt8), i = (j : Int) ∧ s[j]? = some b ∧ K (.c (.d (.sc (.int .u8 b.toNat))))
        | _ => False
      | _ => False
    | _ => False
  | .extract x i => ovK t x fun s => match s with
    | .tup cs => match cs[i]? with
      | some c => sK (.c c) K
      | none => False
    | _ => False
  | .build T parts => match tt.get T with
    | some (.agg ps z) => fillK t ps parts.toList z fun cs => K (.c (.d (.agg cs)))
    | _ => False
  | .buildSlice T len parts => match tt.get T with
    | some (.slice e sz bytes) => match Nat.beq parts.toList.length len, Nat.ble (Nat.mul len sz) 16777216 with
      | true, true => denseK t sz 0 parts.toList fun xs => K (.c (.own d e xs))
      | _, _ => False
    | _ => False
  | .makeSlice T l c => match tt.get T with
    | some (.slice e sz bytes) => vK t l fun u => match u with
      | .int _ 0 => vK t c fun v => match v with
        | .int _ i => ∃ n : Nat, i = (n : Int) ∧ (bytes * n ≤ 281474976710656 ∧ n ≤ maxLen) ∧ K (.c (.own d e []))
        | _ => False
      | _ => False
    | _ => False
  | .slice T x lo hi none => match tt.get T with
    | some (.slice e sz bytes) => dK t x fun dx => match dx with
      | .row xs => bndK t lo 0 fun l => bndK t hi xs.length fun hh => (∀ x ∈ xs, x.cells.length = sz) ∧ l ≤ hh ∧ hh ≤ xs.length ∧ ∃ ys, (xs.take hh).drop l = ys ∧ K (.c (.d (.row ys)))
      | _ => False
    | some .str => vK t x fun u => match u with
      | .string s => bndK t lo 0 fun l => bndK t hi s.size fun hh => l ≤ hh ∧ hh ≤ s.size ∧ ∃ s', s.extract l hh = s' ∧ K (.c (.d (.sc (.string s'))))
      | _ => False
    | _ => False
  | .call c => match c.callee with
    | .builtin .len => match c.args.toList, c.argTypes.toList with
      | [x], [T] => match tt.get T with
        | some (.slice e sz bytes) => dK t x fun dx => match dx with
          | .row xs => ∃ n : Nat, xs.length = n ∧ K (.c (.d (.sc (.int .i64 n))))
          | _ => False
        | some .str => vK t x fun u => match u with
          | .string s => ∃ n : Nat, s.size = n ∧ K (.c (.d (.sc (.int .i64 n))))
          | _ => False
        | _ => False
      | _, _ => False
    | .value (.func f) => argsK t c.args.toList fun ds => ∃ res, (enters P f = true ∧ Contract P f ds res) ∧ resK d res K
    | _ => ∃ s, Yield P N o (envT t h) s ∧ sK s K
  | .nilCheck x => ovK t x fun s => match s with
    | .c (.d (.ptr id off)) => K (.c (.d (.ptr id off)))
    | _ => False
  | .field T x f => dK t x fun d => match d with
    | .agg cs => ∃ off sh, FieldOk P T f off sh ∧ partK sh cs off fun r => K (.c (.d r))
    | _ => False
  | _ => False
theorem yK_sound {P : Program} {tt : TT} (htt : TTok P tt) {N d : Nat} {o : Oper} {t : Tr} {h : Hp} {K : S → Prop} (hdst : o.dst = some d) (hd : d < N) (hk : yK P tt N d o t h K) : ∃ s, Yield P N o (envT t h) s ∧ K s := by
  unfold yK at hk
  split at hk
  · rename_i x hop; exact ⟨_, y_move hop rfl hdst hd, ovK_spec (h := h) hk⟩
  · rename_i x hop; exact ⟨_, y_assign hop rfl hdst hd, ovK_spec (h := h) hk⟩
  · rename_i x y z hop
    obtain ⟨v, h1, _, h2⟩ := vK_spec (h := h) hk
    split at h2
    · exact ⟨_, y_pick hop h1 rfl hdst hd, ovK_spec (h := h) h2⟩
    · exact ⟨_, y_pick hop h1 rfl hdst hd, ovK_spec (h := h) h2⟩
    · exact h2.elim
  · rename_i op T x y T' hop
    obtain ⟨du, h1, h2⟩ := dK_spec (h := h) hk
    obtain ⟨dv, h3, h4⟩ := dK_spec (h := h) h2
    split at h4
    · obtain ⟨r, h5, h6, h7⟩ := binK_spec h4
      exact ⟨_, y_binop hop (by unfold vc1; rw [h1]; rfl) (by unfold vc1; rw [h3]; rfl) h5 h6 hdst hd, h7⟩
    · split at h4
      · obtain ⟨⟨e, h5⟩, h6⟩ := h4; exact ⟨_, y_eqptr (neg := false) hop h1 h5 hdst hd, h6⟩
      · obtain ⟨⟨e, h5⟩, h6⟩ := h4; exact ⟨_, y_eqptr (neg := true) hop h1 h5 hdst hd, h6⟩
      · exact h4.elim
    · split at h4
      · obtain ⟨⟨k, e, h5⟩, h6⟩ := h4; exact ⟨_, y_eqmap (neg := false) hop h1 h5 hdst hd, h6⟩
      · obtain ⟨⟨k, e, h5⟩, h6⟩ := h4; exact ⟨_, y_eqmap (neg := true) hop h1 h5 hdst hd, h6⟩
      · exact h4.elim
    · obtain ⟨u, v, r, ⟨h5, h6⟩, h7, h8, h9⟩ := h4
      exact ⟨_, y_binW hop (by unfold vc1; rw [h1]; exact h5) (by unfold vc1; rw [h3]; exact h6) h7 h8 hdst hd, h9⟩
  · rename_i op T x hop
    obtain ⟨u, _, h1, h2⟩ := vK_spec (h := h) hk
    split at h2
    · exact ⟨_, y_unop hop h1 rfl rfl hdst hd, h2⟩
    · obtain ⟨r, h5, h6, h7⟩ := h2
      exact ⟨_, y_unop hop h1 h5 h6 hdst hd, h7⟩
  · rename_i T T' x hop
    obtain ⟨u, _, h1, r, h5, h6, h7⟩ := vK_spec (h := h) hk
    exact ⟨_, y_convert hop h1 h5 h6 hdst hd, h7⟩
  · rename_i T x hop
    split at hk
    · rename_i i hi
      have hsh := shI_ok (htt _ _ hi)
      have hk := ovK_spec (h := h) hk
      split at hk
      · rename_i u off hx
        split at hk
        · rename_i cs hcs
          split at hk
          · exact hk.elim
          · rename_i hb
            obtain ⟨r, h1, h2⟩ := partK_spec hk
            exact ⟨_, y_load_ref hop hx (by rw [envT_lt (ble_lt hb)]; exact hcs) hsh h1 hdst hd, h2⟩
        · rename_i cs hcs
          split at hk
          · exact hk.elim
          · rename_i hb
            rcases uloadK_spec hk with ⟨r, h1, h2, h3⟩ | ⟨q1, q2, q3, h0, h1, h2⟩
            · exact ⟨_, y_loadU hop hx (by rw [envT_lt (ble_lt hb)]; exact hcs) hsh h1 h2 hdst hd, h3⟩
            · have hsh' : tshape P T = some (false, (shI i).2) := by rw [hsh]; cases hq : shI i; rw [hq] at h0; simp at h0; rw [h0]
              exact ⟨_, y_loadR hop hx (by rw [envT_lt (ble_lt hb)]; exact hcs) hsh' h1 hdst hd, h2⟩
        · exact hk.elim
      · rename_i cs off hx
        obtain ⟨r, h1, h2⟩ := partK_spec hk
        exact ⟨_, y_load_at hop hx hsh h1 hdst hd, h2⟩
      · rename_i id off hx
        obtain ⟨cs, ⟨hb, hid⟩, hk⟩ := hk
        obtain ⟨r, h1, h2⟩ := partK_spec hk
        exact ⟨_, y_load_ptr hop (by unfold vd; rw [hx]; rfl) (by rw [envT_at hb, hid]; rfl) (namb hb) hsh h1 hdst hd, h2⟩
      · exact hk.elim
    · exact hk.elim
  · rename_i T x f hop
    split at hk
    · rename_i ps z hi
      split at hk
      · rename_i k sz hps
        split at hk
        · exact hk.elim
        · rename_i h0
          have hf := field_ok (htt _ _ hi).2.1 hps (fun e => by rw [e] at h0; cases h0)
          have hk := ovK_spec (h := h) hk
          split at hk
          · rename_i u off hx; exact ⟨_, y_field_ref hop hx hf hdst hd, hk⟩
          · rename_i cs off hx; exact ⟨_, y_field_at hop hx hf hdst hd, hk⟩
          · rename_i id off hx; exact ⟨_, y_field_ptr hop (by unfold vd; rw [hx]; rfl) hf hdst hd, hk⟩
          · exact hk.elim
      · exact hk.elim
    · exact hk.elim
  · rename_i T x ix hop
    split at hk
    · rename_i e sz bytes hi
      obtain ⟨dx, h1, h2⟩ := dK_spec (h := h) hk
      split at h2
      · rename_i xs
        obtain ⟨v, h3, _, h4⟩ := vK_spec (h := h) h2
        split at h4
        · rename_i k i
          obtain ⟨j, y, rfl, h5, h6⟩ := h4
          have h7 := cellsK_spec h6
          split at h7
          · rename_i hl
            have hl := Nat.eq_of_beq_eq_true hl
            obtain ⟨ii, zz, q1, q2, q3, q4, q5, q6, q7, q8⟩ := elemFull_parts (htt _ _ hi).2.1
            exact ⟨_, y_index hop h1 h3 (by unfold elemSize; rw [q1]; simp [q2, q4]) h5 hl hdst hd, h7⟩
          · exact h7.elim
        · exact h4.elim
      · exact h2.elim
    · exact hk.elim
  · rename_i T x ix hop
    split at hk
    · rename_i hi
      obtain ⟨u, h1, _, h2⟩ := vK_spec (h := h) hk
      split at h2
      · rename_i s
        obtain ⟨v, h3, _, h4⟩ := vK_spec (h := h) h2
        split at h4
        · rename_i k i
          obtain ⟨j, b, rfl, h5, h6⟩ := h4
          exact ⟨_, y_char hop h1 h3 (htt _ _ hi).2.1 h5 hdst hd, h6⟩
        · exact h4.elim
      · exact h2.elim
    · exact hk.elim
  · rename_i x i hop
    have hk := ovK_spec (h := h) hk
    split at hk
    · rename_i cs hx
      split at hk
      · rename_i c hc; exact ⟨_, y_extract hop hx hc hdst hd, sK_spec hk⟩
      · exact hk.elim
    · exact hk.elim
  · rename_i T parts hop
    split at hk
    · rename_i ps z hi
      obtain ⟨ds, cs, h1, h2, h3⟩ := fillK_spec (h := h) hk
      exact ⟨_, y_build hop h1 (by rw [built_ok (htt _ _ hi).2.1 (htt _ _ hi).2.2]; exact h2) hdst hd, h3⟩
    · exact hk.elim
  · rename_i T len parts hop
    split at hk
    · rename_i e sz bytes hi
      split at hk
      · rename_i hl hm
        have hl := Nat.eq_of_beq_eq_true hl
        have hm := Nat.le_of_ble_eq_true hm
        obtain ⟨xs, h1, h2, h3, h4⟩ := denseK_spec (h := h) hk
        have := y_lit (d := d) (N := N) hop (htt _ _ hi).2.1 h1 (by rw [denseFrom_map]) (by rw [denseFrom_len, h2, hl]) (by rw [denseFrom_map]; exact h3) (htt _ _ hi).2.2.1 hm hdst hd
        rw [denseFrom_map] at this
        exact ⟨_, this, h4⟩
      · exact hk.elim
    · exact hk.elim
  · rename_i T l c hop
    split at hk
    · rename_i e sz bytes hi
      obtain ⟨u, h1, _, h2⟩ := vK_spec (h := h) hk
      split at h2
      · obtain ⟨v, h3, _, h4⟩ := vK_spec (h := h) h2
        split at h4
        · obtain ⟨n, rfl, h5, h6⟩ := h4
          exact ⟨_, y_make hop (htt _ _ hi).2.1 h1 h3 h5.1 h5.2 hdst hd, h6⟩
        · exact h4.elim
      · exact h2.elim
    · exact hk.elim
  · rename_i T x lo hi hop
    split at hk
    · rename_i e sz bytes hti
      obtain ⟨dx, h1, h2⟩ := dK_spec (h := h) hk
      split at h2
      · rename_i xs
        obtain ⟨l, h3, h4⟩ := bndK_spec (h := h) h2
        obtain ⟨hh, h5, h6, h7, h8, ys, rfl, h9⟩ := bndK_spec (h := h) h4
        obtain ⟨ii, zz, q1, q2, q3, q4, q5, q6, q7, q8⟩ := elemFull_parts (htt _ _ hti).2.1
        exact ⟨_, y_subrow hop h1 (by unfold elemSize; rw [q1]; simp [q2, q4]) h6 h3 h5 h7 h8 hdst hd, h9⟩
      · exact h2.elim
    · rename_i hti
      obtain ⟨u, h1, _, h2⟩ := vK_spec (h := h) hk
      split at h2
      · rename_i s
        obtain ⟨l, h3, h4⟩ := bndK_spec (h := h) h2
        obtain ⟨hh, h5, h7, h8, ys, rfl, h9⟩ := bndK_spec (h := h) h4
        exact ⟨_, y_substr hop h1 (htt _ _ hti).2.1 h3 h5 h7 h8 hdst hd, h9⟩
      · exact h2.elim
    · exact hk.elim
  · rename_i c hop
    split at hk
    · rename_i hcal
      split at hk
      · rename_i x T hx hT
        obtain ⟨callee, args, argTypes⟩ := c
        obtain rfl : args = #[x] := Array.ext' (by simpa using hx)
        obtain rfl : argTypes = #[T] := Array.ext' (by simpa using hT)
        simp only at hcal
        subst hcal
        split at hk
        · rename_i e sz bytes hti
          obtain ⟨dx, h1, h2⟩ := dK_spec (h := h) hk
          split at h2
          · obtain ⟨n, rfl, h3⟩ := h2
            obtain ⟨ii, zz, q1, q2, q3, q4, q5, q6, q7, q8⟩ := elemFull_parts (htt _ _ hti).2.1
            exact ⟨_, y_len (ts := #[]) (sz := sz) hop h1 (by unfold elemSize; rw [q1]; simp [q2, q4]) hdst hd, h3⟩
          · exact h2.elim
        · rename_i hti
          obtain ⟨u, h1, _, h2⟩ := vK_spec (h := h) hk
          split at h2
          · obtain ⟨n, rfl, h3⟩ := h2
            exact ⟨_, y_lens hop h1 (htt _ _ hti).2.1 hdst hd, h3⟩
          · exact h2.elim
        · exact hk.elim
      · exact hk.elim
    · rename_i f hcal
      obtain ⟨callee, args, argTypes⟩ := c
      simp only at hcal
      subst hcal
      obtain ⟨ds, h1, res, ⟨h2, h3⟩, h4⟩ := argsK_spec (h := h) hk
      exact ⟨_, y_call hop h2 h1 h3 hdst hd, resK_spec h4⟩
    · obtain ⟨s, h1, h2⟩ := hk
      exact ⟨s, h1, sK_spec h2⟩
  · rename_i x hop
    have hk := ovK_spec (h := h) hk
    split at hk
    · rename_i id off hx
      exact ⟨_, y_nilCheck hop (by unfold vd; rw [hx]; rfl) hdst hd, hk⟩
    · exact hk.elim
  · rename_i T x f hop
    obtain ⟨dx, h1, h2⟩ := dK_spec (h := h) hk
    split at h2
    · obtain ⟨off, sh, hf, h3⟩ := h2
      obtain ⟨r, h4, h5⟩ := partK_spec h3
      exact ⟨_, y_fieldv hop h1 hf h4 hdst hd, h5⟩
    · exact h2.elim
  · exact hk.elim
end Go.Vm
end
section
namespace Go.Vm
open Go.RowKit
def memN (n : Nat) : List Nat → Bool
  | [] => false
  | m :: l => match Nat.beq n m with
    | true => true
    | false => memN n l
def hset (h : Hp) (n : Nat) (s : S) : Hp := fun u => if u = n then s else h u
def unrefK (d : Nat) (s : S) (K : S → Prop) : Prop := match s with
  | .ref u off => match Nat.beq u d with
    | true => K .junk
    | false => K (.ref u off)
  | s => sK s K
theorem unrefK_spec {d : Nat} (s : S) (K : S → Prop) (h : unrefK d s K) : K (unref d s) := by
  cases s with
  | ref u off =>
    simp only [unrefK] at h
    show K (if u = d then .junk else .ref u off)
    split at h
    · rename_i hb; rw [if_pos (Nat.eq_of_beq_eq_true hb)]; exact h
    · rename_i hb; rw [if_neg (fun e => by rw [e, Nat.beq_refl] at hb; cases hb)]; exact h
  | c x => cases x <;> exact h
  | _ => exact h
def demCK (τ : Nat) : List C → (List C → Prop) → Prop
  | [], K => K []
  | .d x :: l, K => demCK τ l fun l' => K (.d x :: l')
  | .own τ' e xs :: l, K => match Nat.beq τ' τ with
    | true => demCK τ l fun l' => K (.d (.row xs) :: l')
    | false => demCK τ l fun l' => K (.own τ' e xs :: l')
  | .nil :: l, K => demCK τ l fun l' => K (.nil :: l')
theorem demCK_spec {τ : Nat} : ∀ {l : List C} {K : List C → Prop}, demCK τ l K → K (l.map (demoteC τ))
  | [], _, h => h
  | .d x :: l, K, h => demCK_spec (l := l) (K := fun l' => K (.d x :: l')) h
  | .own τ' e xs :: l, K, h => by
    simp only [demCK] at h
    simp only [List.map_cons, demoteC]
    split at h
    · rename_i hb; rw [if_pos (Nat.eq_of_beq_eq_true hb)]; exact demCK_spec (l := l) (K := fun l' => K (_ :: l')) h
    · rename_i hb; rw [if_neg (fun e => by rw [e, Nat.beq_refl] at hb; cases hb)]; exact demCK_spec (l := l) (K := fun l' => K (_ :: l')) h
  | .nil :: l, K, h => demCK_spec (l := l) (K := fun l' => K (.nil :: l')) h
def demK (τ : Nat) (s : S) (K : S → Prop) : Prop := match s with
  | .c (.own τ' e xs) => match Nat.beq τ' τ with
    | true => K (.c (.d (.row xs)))
    | false => K (.c (.own τ' e xs))
  | .tup cs => demCK τ cs fun cs' => K (.tup cs')
  | s => sK s K
theorem demK_spec {τ : Nat} (s : S) (K : S → Prop) (h : demK τ s K) : K (demote τ s) := by
  cases s with
  | c x =>
    cases x with
    | own τ' e xs =>
      simp only [demK] at h
      unfold demote demoteC
      simp only
      split at h
      · rename_i hb; rw [if_pos (Nat.eq_of_beq_eq_true hb)]; exact h
      · rename_i hb; rw [if_neg (fun e => by rw [e, Nat.beq_refl] at hb; cases hb)]; exact h
    | _ => exact h
  | tup cs => exact demCK_spec h
  | _ => exact h
theorem nameS_unref {d : Nat} (s : S) : unref d (nameS s) = nameS s := by cases s <;> rfl
theorem nameS_demote {d : Nat} (s : S) : demote d (nameS s) = nameS s := by cases s <;> rfl
theorem envT_box {t t1 t2 : Tr} {h : Hp} {d : Nat} {cs : List D} (hd : d < NAM) (h1 : ∀ u, t1.get u = unref d (t.get u)) (h2 : ∀ u, t2.get u = if u = d then .box cs else t1.get u) : envT t2 h = boxEnv (envT t h) d cs := by
  funext u
  simp only [envT, boxEnv, h2, h1]
  by_cases e : u = d
  · subst e; simp [hd]
  · simp only [if_neg e]
    split
    · rfl
    · exact (nameS_unref _).symm
theorem envT_spend {t t1 t2 : Tr} {h : Hp} {d τ : Nat} {s : S} (hd : d < NAM) (h1 : ∀ u, t1.get u = demote τ (t.get u)) (h2 : ∀ u, t2.get u = if u = d then s else t1.get u) : envT t2 h = upd (spend (envT t h) τ) (some d) s := by
  funext u
  simp only [envT, spend, upd, h2, h1]
  by_cases e : u = d
  · subst e; simp [hd]
  · simp only [if_neg e]
    split
    · rfl
    · exact (nameS_demote _).symm
theorem blb_lt {u : Nat} (h : Nat.ble 500000 u = false) : u < BIG := by
  rcases Nat.lt_or_ge u 500000 with h1 | h1
  · exact h1
  · rw [Nat.ble_eq_true_of_le h1] at h; cases h
def appK (tt : TT) (d : Nat) (c : Call) (t : Tr) (K : Tr → Prop) : Prop := match c.args.toList, c.argTypes.toList with
  | [x, y], [T, T'] => match Nat.beq T T', tt.get T with
    | true, some (.slice e sz bytes) => ovK t x fun s => dK t y fun dy => match dy with
      | .row ys => match s with
        | .c (.own τ e' xs) => match Nat.beq e' e with
          | true => ((∀ y ∈ ys, y.cells.length = sz) ∧ xs.length + ys.length ≤ maxLen ∧ (xs.length + ys.length) * bytes ≤ 140737488355328) ∧ ∃ zs, xs ++ ys = zs ∧ mapK (demK τ) t fun t => setK 20 t d (.c (.own τ e zs)) fun t => K t
          | false => False
        | .c .nil => ((∀ y ∈ ys, y.cells.length = sz) ∧ ys.length ≤ maxLen ∧ ys.length * bytes ≤ 140737488355328) ∧ setK 20 t d (.c (.own d e ys)) fun t => K t
        | _ => False
      | _ => False
    | false, some (.slice e sz bytes) => match Nat.beq sz 1, tt.get T' with
      | true, some .str => ovK t x fun s => vK t y fun v => match s, v with
        | .c (.own τ e' xs), .string y => match Nat.beq e' e with
          | true => (xs.length + y.size ≤ maxLen ∧ (xs.length + y.size) * bytes ≤ 140737488355328) ∧ ∃ zs, xs ++ bytesD y = zs ∧ mapK (demK τ) t fun t => setK 20 t d (.c (.own τ e zs)) fun t => K t
          | false => False
        | _, _ => False
      | _, _ => False
    | _, _ => False
  | _, _ => False
def stFb (x : Operand) (fb : List Nat) : Bool := match x with
  | .tmp u => memN (Nat.add u 9000000) fb
  | _ => false
def xstep (P : Program) (tt : TT) (N : Nat) (fb : List Nat) (o : Oper) (t : Tr) (h : Hp) (K : Tr → Hp → Prop) : Prop := match o.dst with
  | none => match o.op with
    | .store T x y => match stFb x fb with
      | true => ∃ (id : Nat) (s : S), (NAM ≤ id ∧ Step P N o (envT t h) (upd (envT t h) (some id) (nameS s))) ∧ K t (hset h id s)
      | false => match tt.get T with
        | some i => ovK t y fun sy => match sy with
         | .sref q1 q2 q3 => match (shI i).1, Nat.beq (shI i).2 1 with
          | false, true => ovK t x fun s => match s with
            | .ref u off => match Nat.ble 500000 u, t.get u with
              | false, .ubox cs => patchK cs off [.rr q1 q2 q3] fun cs' => setK 20 t u (.ubox cs') fun t' => K t' h
              | _, _ => False
            | _ => False
          | _, _ => False
         | .uagg rc => match Nat.beq rc.length (shI i).2 with
          | true => ovK t x fun s => match s with
            | .ref u off => match Nat.ble 500000 u, t.get u with
              | false, .ubox cs => patchK cs off rc fun cs' => setK 20 t u (.ubox cs') fun t' => K t' h
              | _, _ => False
            | _ => False
          | false => False
         | _ => dK t y fun r => cellsK r fun rc => match Nat.beq rc.length (shI i).2 with
          | true => ovK t x fun s => match s with
            | .ref u off => match Nat.ble 500000 u, t.get u with
              | false, .box cs => patchK cs off rc fun cs' => setK 20 t u (.box cs') fun t' => K t' h
              | false, .ubox cs => patchK cs off rc fun cs' => setK 20 t u (.ubox cs') fun t' => K t' h
              | _, _ => False
            | .c (.d (.ptr id off)) => ∃ cs, (NAM ≤ id ∧ h id = .obj cs) ∧ patchK cs off rc fun cs' => K t (hset h id (.obj cs'))
            | .gref id sz off => ∃ xs zs, (Nat.ble 1000000 id = false ∧ t.get id = .gbox sz xs ∧ off + rc.length ≤ xs.length * sz ∧ xs ≠ [] ∧ flat zs = patch (flat xs) off rc ∧ zs.length = xs.length ∧ ∀ z ∈ zs, z.cells.length = sz) ∧ setK 20 t id (.gbox sz zs) fun t' => K t' h
            | _ => False
          | false => False
        | none => False
    | _ => ∃ (id : Nat) (s : S), (NAM ≤ id ∧ Step P N o (envT t h) (upd (envT t h) (some id) (nameS s))) ∧ K t (hset h id s)
  | some d => match Nat.ble N d with
    | true => False
    | false => match memN d fb with
      | true => ∃ (s : S) (h' : Hp), Step P N o (envT t h) (upd (envT t h') (some d) s) ∧ sK s fun s => setK 20 t d s fun t' => K t' h'
      | false => match memN (Nat.add d 2000) fb with
      | true => StepP P N o (envT t h) fun e => ∃ (t' : Tr) (h' : Hp), e = envT t' h' ∧ K t' h'
      | false => match o.op with
        | .box T x => dK t x fun r => cellsK r fun cs => mapK (unrefK d) t fun t => setK 20 t d (.box cs) fun t => K t h
        | .alloc T => match tt.get T with
          | some i => match zI i with
            | some z => mapK (unrefK d) t fun t => setK 20 t d (.box z) fun t => K t h
            | none => False
          | none => False
        | .call c => match c.callee with
          | .builtin .append => appK tt d c t fun t => K t h
          | _ => yK P tt N d o t h fun s => setK 20 t d s fun t => K t h
        | _ => yK P tt N d o t h fun s => setK 20 t d s fun t => K t h
def gK (all : List Oper) (kn : List Nat) (o : Oper) (t : Tr) (K : Bool → List Nat → Tr → Prop) : Prop := match o.guard with
  | none => K true kn t
  | some (j, want) => match all[j]? with
    | some oj => match oj.dst with
      | some u => match Nat.ble 1000000 u, t.get u with
        | false, .c (.d (.sc (.bool b))) => match memN u kn with
          | true => match b, want with
            | true, true => K true kn t
            | false, false => K true kn t
            | true, false => K false kn t
            | false, true => K false kn t
          | false => (b = true → setK 20 t u (.c (.d (.sc (.bool true)))) fun t => K want (u :: kn) t) ∧ (b = false → setK 20 t u (.c (.d (.sc (.bool false)))) fun t => K (!want) (u :: kn) t)
        | false, .tup _ => K false kn t
        | _, _ => False
      | none => False
    | none => False
abbrev XL := List Nat → Tr → Hp → (Tr → Hp → Prop) → Prop
def xopsB (P : Program) (tt : TT) (N : Nat) (fb : List Nat) (all : List Oper) (o : Oper) (rest : XL) : XL := fun kn t h K => gK all kn o t fun run kn t => match run with
  | false => match o.dst with
    | some d => match Nat.ble 1000000 d with
      | true => False
      | false => setK 20 t d (.tup []) fun t => rest kn t h K
    | none => rest kn t h K
  | true => match o.op with
    | .next (.tmp it) false => match o.dst, Nat.ble 1000000 it, t.get it with
      | some d, false, .iter id n seen => match Nat.ble N d, Nat.beq d it with
        | false, false => ∃ es, (NAM ≤ id ∧ h id = .mapo es ∧ es.length = n) ∧ ((∀ i, i < n → i ∈ seen) → setK 20 t d (.tup [.d (.sc (.bool false))]) fun t => rest kn t h K) ∧
          (∀ i p, es[i]? = some p → i ∉ seen → setK 20 t it (.iter id n (seen ++ [i])) fun t => setK 20 t d (.tup [.d (.sc (.bool true)), .d p.1, .d p.2]) fun t => rest kn t h K)
        | _, _ => False
      | _, _, _ => False
    | _ => xstep P tt N fb o t h fun t h => rest kn t h K
def xops (P : Program) (tt : TT) (N : Nat) (fb : List Nat) (all : List Oper) (l : List Oper) : XL := @List.rec Oper (fun _ => XL) (fun _ t h K => K t h) (fun o _ ih => xopsB P tt N fb all o ih) l
section
variable {P : Program} {tt : TT} {N : Nat} {fb : List Nat} {o : Oper} {t : Tr} {h : Hp} {K : Tr → Hp → Prop}
theorem blt_of {d : Nat} (h : Nat.ble N d = false) : d < N := by
  rcases Nat.lt_or_ge d N with h1 | h1
  · exact h1
  · rw [Nat.ble_eq_true_of_le h1] at h; cases h
theorem yset_sound (htt : TTok P tt) (hNB : N ≤ BIG) {d : Nat} (hdst : o.dst = some d) (hd : d < N) (hk : yK P tt N d o t h fun s => setK 20 t d s fun t => K t h) : ∃ t' h', Step P N o (envT t h) (envT t' h') ∧ K t' h' := by
  obtain ⟨s, h1, h2⟩ := yK_sound htt hdst hd hk
  obtain ⟨t', h3, h4⟩ := setK_spec h2
  refine ⟨t', h, ?_, h4⟩
  rw [envT_set (nam (Nat.lt_of_lt_of_le hd hNB)) h3]
  have := h1.step
  rwa [hdst] at this
def CalmE (env env' : Env) : Prop := ∀ t, (∀ d off, env' t = .ref d off → env t = .ref d off) ∧ (nb (env t) = true → nb (env' t) = true)
theorem calm_upd (env : Env) (u : Nat) (s : S) (h1 : nb s = true) (h2 : ∀ d off, s ≠ .ref d off) : CalmE env (upd env (some u) s) := by
  intro t
  by_cases e : t = u
  · subst e
    simp only [upd, if_true]
    exact ⟨fun d off h => absurd h (h2 d off), fun _ => h1⟩
  · simp only [upd, if_neg e]; exact ⟨fun _ _ h => h, fun h => h⟩
theorem calm_spend (env : Env) (τ u : Nat) (s : S) (h1 : nb s = true) (h2 : ∀ d off, s ≠ .ref d off) : CalmE env (upd (spend env τ) (some u) s) := by
  intro t
  by_cases e : t = u
  · subst e
    simp only [upd, if_true]
    exact ⟨fun d off h => absurd h (h2 d off), fun _ => h1⟩
  · simp only [upd, if_neg e, spend]
    cases env t <;> simp [demote, nb]
theorem appK_sound (htt : TTok P tt) (hNB : N ≤ BIG) {d : Nat} {c : Call} {K : Tr → Prop} (hop : o.op = .call c) (hcal : c.callee = .builtin .append) (hdst : o.dst = some d) (hd : d < N) (hk : appK tt d c t K) : ∃ t2, Step P N o (envT t h) (envT t2 h) ∧ K t2 ∧ CalmE (envT t h) (envT t2 h) := by
  have hdB : d < BIG := Nat.lt_of_lt_of_le hd hNB
  unfold appK at hk
  split at hk
  · rename_i x y T T' hx hT
    obtain ⟨callee, args, argTypes⟩ := c
    obtain rfl : args = #[x, y] := Array.ext' (by simpa using hx)
    obtain rfl : argTypes = #[T, T'] := Array.ext' (by simpa using hT)
    simp only at hcal
    subst hcal
    split at hk
    · rename_i e sz bytes hTT hi
      obtain rfl := Nat.eq_of_beq_eq_true hTT
      have hfull := (htt _ _ hi).2.1
      have hk := ovK_spec (h := h) hk
      obtain ⟨dy, h1, h2⟩ := dK_spec (h := h) hk
      split at h2
      · rename_i ys
        split at h2
        · rename_i τ e' xs hs
          split at h2
          · rename_i he
            obtain rfl := Nat.eq_of_beq_eq_true he
            obtain ⟨⟨h3, h4, h5⟩, zs, rfl, h6⟩ := h2
            obtain ⟨t1, h7, h8⟩ := mapK_spec (f := demote τ) rfl demK_spec h6
            obtain ⟨t2, h9, h10⟩ := setK_spec h8
            exact ⟨t2, by rw [envT_spend (nam hdB) h7 h9]; exact s_append hop hfull hs h1 h3 h4 h5 hdst hd, h10, by rw [envT_spend (nam hdB) h7 h9]; exact calm_spend _ _ _ _ rfl (by intro _ _ e; cases e)⟩
          · exact h2.elim
        · rename_i hs
          obtain ⟨⟨h3, h4, h5⟩, h6⟩ := h2
          obtain ⟨t2, h9, h10⟩ := setK_spec h6
          refine ⟨t2, ?_, h10, by rw [envT_set (nam hdB) h9]; exact calm_upd _ _ _ rfl (by intro _ _ e; cases e)⟩
          rw [envT_set (nam hdB) h9]
          have := (y_append_nil (d := d) hop hfull hs h1 h3 h4 h5 hdst hd).step
          rwa [hdst] at this
        · exact h2.elim
      · exact h2.elim
    · rename_i e sz bytes hTT hi
      split at hk
      · rename_i hsz hstr
        obtain rfl := Nat.eq_of_beq_eq_true hsz
        have hfull := (htt _ _ hi).2.1
        have hk := ovK_spec (h := h) hk
        obtain ⟨v, h1, _, h2⟩ := vK_spec (h := h) hk
        split at h2
        · rename_i τ e' xs y' hs _
          split at h2
          · rename_i he
            obtain rfl := Nat.eq_of_beq_eq_true he
            obtain ⟨⟨h4, h5⟩, zs, rfl, h6⟩ := h2
            obtain ⟨t1, h7, h8⟩ := mapK_spec (f := demote τ) rfl demK_spec h6
            obtain ⟨t2, h9, h10⟩ := setK_spec h8
            exact ⟨t2, by rw [envT_spend (nam hdB) h7 h9]; exact s_append_str hop hfull (htt _ _ hstr).2.1 hs h1 h4 h5 hdst hd, h10, by rw [envT_spend (nam hdB) h7 h9]; exact calm_spend _ _ _ _ rfl (by intro _ _ e; cases e)⟩
          · exact h2.elim
        · exact h2.elim
      · exact hk.elim
    · exact hk.elim
  · exact hk.elim
theorem stepP_of (hs : ∃ t' h', Step P N o (envT t h) (envT t' h') ∧ K t' h') : StepP P N o (envT t h) fun e => ∃ t' h', e = envT t' h' ∧ K t' h' := by
  obtain ⟨t', h', h1, h2⟩ := hs
  exact h1.toP ⟨t', h', rfl, h2⟩
theorem xstep_sound2 (htt : TTok P tt) (hNB : N ≤ BIG) (hk : xstep P tt N fb o t h K) : StepP P N o (envT t h) fun e => ∃ t' h', e = envT t' h' ∧ K t' h' := by
  unfold xstep at hk
  split at hk
  · rename_i hdst
    refine stepP_of ?_
    split at hk
    · rename_i T x y hop
      obtain hfb | hfb := Bool.eq_false_or_eq_true (stFb x fb)
      · rw [hfb] at hk
        obtain ⟨id, s, ⟨hb, h1⟩, h2⟩ := hk
        refine ⟨t, _, ?_, h2⟩
        unfold hset
        rw [envT_name hb]; exact h1
      rw [hfb] at hk
      dsimp only at hk
      split at hk
      · rename_i i hi
        have hsh := shI_ok (htt _ _ hi)
        have hk := ovK_spec (h := h) hk
        split at hk
        · rename_i q1 q2 q3 hy
          split at hk
          · rename_i ha hl
            have hl := Nat.eq_of_beq_eq_true hl
            have h2 := ovK_spec (h := h) hk
            split at h2
            · rename_i u off hx
              split at h2
              · rename_i cs hb hcs
                have hu := blb_lt hb
                obtain ⟨h3, h4⟩ := patchK_spec h2
                obtain ⟨t', h5, h6⟩ := setK_spec h4
                refine ⟨t', h, ?_, h6⟩
                rw [envT_set (nam hu) h5]
                have hsh' : tshape P T = some (false, 1) := by rw [hsh]; cases hq : shI i; rw [hq] at ha hl; simp at ha hl; rw [ha, hl]
                exact s_storeR (m := 1) hop hx (by rw [envT_lt (nam hu)]; exact hcs) hu hy hsh' h3 hdst
              · exact h2.elim
            · exact h2.elim
          · exact hk.elim
        · rename_i rc hy
          split at hk
          · rename_i hl
            have hl := Nat.eq_of_beq_eq_true hl
            have h2 := ovK_spec (h := h) hk
            split at h2
            · rename_i u off hx
              split at h2
              · rename_i cs hb hcs
                have hu := blb_lt hb
                obtain ⟨h3, h4⟩ := patchK_spec h2
                obtain ⟨t', h5, h6⟩ := setK_spec h4
                refine ⟨t', h, ?_, h6⟩
                rw [envT_set (nam hu) h5]
                exact s_storeA hop hx (by rw [envT_lt (nam hu)]; exact hcs) hu hy hsh hl h3 hdst
              · exact h2.elim
            · exact h2.elim
          · exact hk.elim
        obtain ⟨r, h1, h2⟩ := dK_spec (h := h) hk
        have h2 := cellsK_spec h2
        split at h2
        · rename_i hl
          have hl := Nat.eq_of_beq_eq_true hl
          have h2 := ovK_spec (h := h) h2
          split at h2
          · rename_i u off hx
            split at h2
            · rename_i cs hb hcs
              have hu := nam (blb_lt hb)
              obtain ⟨h3, h4⟩ := patchK_spec h2
              obtain ⟨t', h5, h6⟩ := setK_spec h4
              refine ⟨t', h, ?_, h6⟩
              rw [envT_set hu h5]
              exact s_store hop hx (by rw [envT_lt hu]; exact hcs) h1 hsh hl h3 hdst
            · rename_i cs hb hcs
              have hu := nam (blb_lt hb)
              obtain ⟨h3, h4⟩ := patchK_spec h2
              obtain ⟨t', h5, h6⟩ := setK_spec h4
              refine ⟨t', h, ?_, h6⟩
              rw [envT_set hu h5]
              exact s_storeU hop hx (by rw [envT_lt hu]; exact hcs) (blb_lt hb) h1 hsh hl h3 hdst
            · exact h2.elim
          · rename_i id off hx
            obtain ⟨cs, ⟨hb, hid⟩, h2⟩ := h2
            obtain ⟨h3, h4⟩ := patchK_spec h2
            refine ⟨t, _, ?_, h4⟩
            unfold hset
            rw [envT_name hb]
            exact s_store_ptr hop (by unfold vd; rw [hx]; rfl) (by rw [envT_at hb, hid]; rfl) h1 hsh hl h3 hdst
          · rename_i id sz off hx
            obtain ⟨xs, zs, ⟨hb, hid, q1, q2, q3, q4, q5⟩, h2⟩ := h2
            obtain ⟨t', h5, h6⟩ := setK_spec h2
            refine ⟨t', h, ?_, h6⟩
            rw [envT_set (ble_lt hb) h5]
            exact s_storeG hop hx (by rw [envT_lt (ble_lt hb)]; exact hid) h1 hsh hl q1 q2 q3 q4 q5 hdst
          · exact h2.elim
        · exact h2.elim
      · exact hk.elim
    · obtain ⟨id, s, ⟨hb, h1⟩, h2⟩ := hk
      refine ⟨t, _, ?_, h2⟩
      unfold hset
      rw [envT_name hb]; exact h1
  · rename_i d hdst
    split at hk
    · exact hk.elim
    · rename_i hdN
      have hd := blt_of hdN
      have hdB : d < BIG := Nat.lt_of_lt_of_le hd hNB
      split at hk
      · refine stepP_of ?_
        obtain ⟨s, h', h1, h2⟩ := hk
        obtain ⟨t', h3, h4⟩ := setK_spec (sK_spec h2)
        exact ⟨t', h', by rw [envT_set (nam hdB) h3]; exact h1, h4⟩
      · split at hk
        · exact hk
        refine stepP_of ?_
        split at hk
        · rename_i T x hop
          obtain ⟨r, h1, h2⟩ := dK_spec (h := h) hk
          obtain ⟨t1, h3, h4⟩ := mapK_spec (f := unref d) rfl unrefK_spec (cellsK_spec h2)
          obtain ⟨t2, h5, h6⟩ := setK_spec h4
          exact ⟨t2, h, by rw [envT_box (nam hdB) h3 h5]; exact s_box hop h1 hdst hd hdB, h6⟩
        · rename_i T hop
          split at hk
          · rename_i i hi
            split at hk
            · rename_i z hz
              obtain ⟨t1, h3, h4⟩ := mapK_spec (f := unref d) rfl unrefK_spec hk
              obtain ⟨t2, h5, h6⟩ := setK_spec h4
              exact ⟨t2, h, by rw [envT_box (nam hdB) h3 h5]; exact s_alloc hop (zI_ok (htt _ _ hi) hz) hdst hd hdB, h6⟩
            · exact hk.elim
          · exact hk.elim
        · rename_i c hop
          split at hk
          · rename_i hcal
            obtain ⟨t2, h1, h2, _⟩ := appK_sound (h := h) htt hNB hop hcal hdst hd hk
            exact ⟨t2, h, h1, h2⟩
          · exact yset_sound htt hNB hdst hd hk
        · exact yset_sound htt hNB hdst hd hk
theorem gK_sound {all : List Oper} {kn : List Nat} {K : Bool → List Nat → Tr → Prop} (hk : gK all kn o t K) : ∃ run kn' t', guardOk all.toArray o (envT t' h) = some run ∧ envT t' h = envT t h ∧ K run kn' t' := by
  unfold gK at hk
  unfold guardOk
  split at hk
  · rename_i hg
    exact ⟨true, kn, t, by rw [hg], rfl, hk⟩
  · rename_i j want hg
    simp only [hg, List.getElem?_toArray]
    split at hk
    · rename_i oj hj
      simp only [hj, Option.bind_some]
      split at hk
      · rename_i u hu
        simp only [hu]
        split at hk
        · rename_i b hb hs
          have hlt := ble_lt hb
          split at hk
          · split at hk
            all_goals exact ⟨_, kn, t, by rw [envT_lt hlt, hs]; rfl, rfl, hk⟩
          · cases b with
            | true =>
              obtain ⟨t', h1, h2⟩ := setK_spec (hk.1 rfl)
              have e : envT t' h = envT t h := by
                rw [envT_set hlt h1]
                funext v
                simp only [upd]
                split
                · rename_i e; subst e; rw [envT_lt hlt, hs]
                · rfl
              refine ⟨_, _, t', ?_, e, h2⟩
              rw [envT_lt hlt, h1, if_pos rfl]
              cases want <;> rfl
            | false =>
              obtain ⟨t', h1, h2⟩ := setK_spec (hk.2 rfl)
              have e : envT t' h = envT t h := by
                rw [envT_set hlt h1]
                funext v
                simp only [upd]
                split
                · rename_i e; subst e; rw [envT_lt hlt, hs]
                · rfl
              refine ⟨_, _, t', ?_, e, h2⟩
              rw [envT_lt hlt, h1, if_pos rfl]
              cases want <;> rfl
        · rename_i cs hb hs
          exact ⟨false, kn, t, by rw [envT_lt (ble_lt hb), hs], rfl, hk⟩
        · exact hk.elim
      · exact hk.elim
    · exact hk.elim
theorem xops_sound (htt : TTok P tt) (hNB : N ≤ BIG) {all : List Oper} : ∀ {l : List Oper} {kn : List Nat} {t : Tr} {h : Hp} {K : Tr → Hp → Prop}, xops P tt N fb all l kn t h K → VL P N all.toArray l (envT t h) (fun env => ∃ t h, env = envT t h ∧ K t h)
  | [], kn, t, h, K, hk => vl_nil ⟨t, h, rfl, hk⟩
  | o :: rest, kn, t, h, K, hk => by
    change xopsB P tt N fb all o (xops P tt N fb all rest) kn t h K at hk
    unfold xopsB at hk
    obtain ⟨run, kn', t', hg, he, hk⟩ := gK_sound (h := h) hk
    rw [← he]
    cases run with
    | false =>
      simp only at hk
      refine vl_skip hg ?_
      split at hk
      · rename_i d hdst
        split at hk
        · exact hk.elim
        · rename_i hb
          obtain ⟨t2, h1, h2⟩ := setK_spec hk
          rw [hdst, ← envT_set (ble_lt hb) h1]
          exact xops_sound htt hNB h2
      · rename_i hdst
        rw [hdst]
        exact xops_sound htt hNB hk
    | true =>
      simp only at hk
      split at hk
      · rename_i it hop
        split at hk
        · rename_i d id n seen hdst hb hit
          split at hk
          · rename_i hdN hne
            obtain ⟨es, ⟨hid, hm, hn⟩, hk1, hk2⟩ := hk
            have hd := blt_of hdN
            have hlt := ble_lt hb
            refine vl_next (ty := 0) hop hg (by rw [envT_lt hlt]; exact hit) (by rw [envT_at hid, hm]; rfl) hn hdst hd (fun e => by rw [e, Nat.beq_refl] at hne; cases hne) (fun h0 => ?_) (fun i p hp hi => ?_)
            · obtain ⟨t2, h1, h2⟩ := setK_spec (hk1 h0)
              rw [← envT_set (nam (Nat.lt_of_lt_of_le hd hNB)) h1]
              exact xops_sound htt hNB h2
            · obtain ⟨t2, h1, h2⟩ := setK_spec (hk2 i p hp hi)
              obtain ⟨t3, h3, h4⟩ := setK_spec h2
              rw [← envT_set hlt h1, ← envT_set (nam (Nat.lt_of_lt_of_le hd hNB)) h3]
              exact xops_sound htt hNB h4
          · exact hk.elim
        · exact hk.elim
      · refine vl_stepP hg (xstep_sound2 htt hNB hk) ?_
        rintro e ⟨t2, h2, rfl, h4⟩
        exact xops_sound htt hNB h4
end
end Go.Vm
end
section
namespace Go.Vm
open Go.RowKit
def freshK (ds : List Nat) (s : S) (K : S → Prop) : Prop := match s with
  | .ref u off => match memN u ds with
    | true => K .junk
    | false => K (.ref u off)
  | s => sK s K
theorem memN_spec : ∀ {l : List Nat} {n : Nat}, memN n l = l.contains n
  | [], n => rfl
  | m :: l, n => by
    simp only [memN, List.contains_cons]
    have beqe : Nat.beq n m = (n == m) := by rw [Bool.eq_iff_iff]; simp [Nat.beq_eq]
    rw [← beqe]
    split
    · rename_i h; rw [h]; rfl
    · rename_i h; rw [h, Bool.false_or]; exact memN_spec
def clearK : List Nat → Tr → (Tr → Prop) → Prop
  | [], t, K => K t
  | d :: l, t, K => match Nat.ble 500000 d with
    | true => False
    | false => setK 20 t d .junk fun t => clearK l t K
theorem clearK_spec : ∀ {l : List Nat} {t : Tr} {K : Tr → Prop}, clearK l t K → ∃ t', (∀ u, t'.get u = if l.contains u then .junk else t.get u) ∧ (∀ d ∈ l, d < BIG) ∧ K t'
  | [], t, K, h => ⟨t, fun u => by simp, by simp, h⟩
  | d :: l, t, K, h => by
    simp only [clearK] at h
    split at h
    · exact h.elim
    · rename_i hb
      obtain ⟨t1, h1, h2⟩ := setK_spec h
      obtain ⟨t2, h3, h4, h5⟩ := clearK_spec h2
      refine ⟨t2, fun u => ?_, ?_, h5⟩
      · rw [h3, h1, List.contains_cons]
        by_cases e : u = d
        · subst e; simp
        · have : (u == d) = false := by simpa using e
          simp [this, e]
      · intro x hx
        rcases List.mem_cons.1 hx with rfl | hx
        · exact blb_lt hb
        · exact h4 x hx
def xq1 (P : Program) (tt : TT) (N : Nat) (fb : List Nat) (all : List Oper) (o : Oper) (rest : XL) (run : Bool) : XL := fun kn t h K => match derefOk all.toArray o (envT t h) with
    | false => False
    | true => match run with
      | false => match o.dst with
        | some d => match Nat.ble 500000 d with
          | true => False
          | false => setK 20 t d (.tup []) fun t => rest kn t h K
        | none => rest kn t h K
      | true => match o.dst with
        | none => match o.op with
          | .store T x y => match tt.get T with
            | some i => ovK t y fun sy => match sy with
             | .sref q1 q2 q3 => match (shI i).1, Nat.beq (shI i).2 1 with
              | false, true => ovK t x fun s => match s with
                | .ref u off => match Nat.ble 500000 u, t.get u with
                  | false, .ubox cs => patchK cs off [.rr q1 q2 q3] fun cs' => setK 20 t u (.ubox cs') fun t' => rest kn t' h K
                  | _, _ => False
                | _ => False
              | _, _ => False
             | _ => dK t y fun r => cellsK r fun rc => match Nat.beq rc.length (shI i).2 with
              | true => ovK t x fun s => match s with
                | .ref u off => match Nat.ble 500000 u, t.get u with
                  | false, .box cs => patchK cs off rc fun cs' => setK 20 t u (.box cs') fun t' => rest kn t' h K
                  | false, .ubox cs => patchK cs off rc fun cs' => setK 20 t u (.ubox cs') fun t' => rest kn t' h K
                  | _, _ => False
                | _ => False
              | false => False
            | none => False
          | _ => False
        | some d => match Nat.ble N d with
          | true => False
          | false => match memN d fb with
            | true => ∃ s, DG P N fb all.toArray o (envT t h) (.slot (some d) s) ∧ sK s fun s => setK 20 t d s fun t => rest kn t h K
            | false => match memN (Nat.add d 4000) fb with
            | true => ∃ (eff : Eff) (s : S) (h' : Hp), (DG P N fb all.toArray o (envT t h) eff ∧ eff.app (envT t h) = upd (envT t h') (some d) s) ∧ sK s fun s => setK 20 t d s fun t => rest kn t h' K
            | false => match o.op with
              | .box T x => dK t x fun r => cellsK r fun cs => setK 20 t d (.box cs) fun t => rest kn t h K
              | .alloc T => match tt.get T with
                | some i => match zI i with
                  | some z => setK 20 t d (.box z) fun t => rest kn t h K
                  | none => False
                | none => False
              | _ => match memN (Nat.add d 6000) fb with
                | true => yK P tt N d o t (fun _ => .junk) fun s => match nb s, refOk o (envT t h) s with
                  | true, true => setK 20 t d s fun t => rest kn t h K
                  | _, _ => False
                | false => yK P tt N d o t h fun s => match nb s, refOk o (envT t h) s with
                  | true, true => setK 20 t d s fun t => rest kn t h K
                  | _, _ => False
def notRef : S → Bool
  | .ref _ _ => false
  | _ => true
def barK (P : Program) (tt : TT) (N : Nat) (fb : List Nat) (o : Oper) (t : Tr) (h : Hp) (K : Tr → Hp → Prop) : Prop := match o.dst with
  | none => ∃ (id : Nat) (s : S), (NAM ≤ id ∧ Step P N o (envT t h) (upd (envT t h) (some id) (nameS s))) ∧ K t (hset h id s)
  | some d => match Nat.ble N d with
    | true => False
    | false => match o.op with
      | .call c => match memN (Nat.add d 2000) fb with
       | true => ∃ (t' : Tr) (h' : Hp), (Step P N o (envT t h) (envT t' h') ∧ CalmE (envT t h) (envT t' h')) ∧ K t' h'
       | false => match c.callee with
        | .builtin .append => appK tt d c t fun t => K t h
        | _ => ∃ (s : S) (h' : Hp), Step P N o (envT t h) (upd (envT t h') (some d) s) ∧ sK s fun s => match nb s, notRef s with
          | true, true => setK 20 t d s fun t' => K t' h'
          | _, _ => False
      | _ => False
def isBar (fb : List Nat) (o : Oper) : Bool := match o.op with
  | .mapUpdate .. => true
  | _ => match o.dst with
    | some d => memN (Nat.add d 1000) fb
    | none => false
def barOf (fb : List Nat) : List Oper → Nat → List Nat
  | [], _ => []
  | o :: l, k => match isBar fb o with
    | true => k :: barOf fb l (Nat.succ k)
    | false => barOf fb l (Nat.succ k)
def xqB (P : Program) (tt : TT) (N : Nat) (fb : List Nat) (all : List Oper) (bar : List Nat) (o : Oper) (rest : Nat → XL) : Nat → XL := fun k kn t h K => gK all kn o t fun run kn t => match memN k bar with
  | true => match run with
    | true => barK P tt N fb o t h fun t h => rest (Nat.succ k) kn t h K
    | false => False
  | false => xq1 P tt N fb all o (rest (Nat.succ k)) run kn t h K
def xq (P : Program) (tt : TT) (N : Nat) (fb : List Nat) (all : List Oper) (bar : List Nat) (l : List Oper) : Nat → XL := @List.rec Oper (fun _ => Nat → XL) (fun _ _ t h K => K t h) (fun o _ ih => xqB P tt N fb all bar o ih) l
abbrev XC := Tr → Hp → (Exit → Tr → Hp → Prop) → Prop
def xseq (a b : XC) : XC := fun t h K => a t h fun e t h => match e with
  | .normal => b t h K
  | .ret => K .ret t h
  | .exit id => K (.exit id) t h
  | .goto l => K (.goto l) t h
  | .panic c => K (.panic c) t h
  | .outgrown => K .outgrown t h
def xcond (c : Operand) (a b : XC) : XC := fun t h K => ovK t c fun s => match s with
  | .c (.d (.sc (.bool p))) => match c with
    | .tmp u => match Nat.ble 1000000 u with
      | true => False
      | false => (p = true → setK 20 t u (.c (.d (.sc (.bool true)))) fun t => a t h K) ∧ (p = false → setK 20 t u (.c (.d (.sc (.bool false)))) fun t => b t h K)
    | _ => (p = true → a t h K) ∧ (p = false → b t h K)
  | _ => False
def xblock (id : Nat) (b : XC) : XC := fun t h K => b t h fun e t h => match e with
  | .exit i => match Nat.beq i id with
    | true => K .normal t h
    | false => K (.exit i) t h
  | .normal => K .normal t h
  | .ret => K .ret t h
  | .goto l => K (.goto l) t h
  | .panic c => K (.panic c) t h
  | .outgrown => K .outgrown t h
def xregion (P : Program) (tt : TT) (N : Nat) (fb : List Nat) (ops : Array Oper) (draw : Bool) : XC := fun t h K => match draw with
  | false => xops P tt N fb ops.toList ops.toList [] t h (K .normal)
  | true => (P.follows .mixedOrders = true ∧ drawnB fb ops (barOf fb ops.toList 0) = true) ∧ mapK (freshK (news ops.toList)) t fun t => clearK (news ops.toList) t fun t => xq P tt N fb ops.toList (barOf fb ops.toList 0) ops.toList 0 [] t h (K .normal)
def xleaf (P : Program) (N : Nat) (c : Code) : XC := fun t h K => Leaf (VC P N c (envT t h) fun e env => ∃ t h, env = envT t h ∧ K e t h)
def xcode (P : Program) (tt : TT) (N : Nat) (fb : List Nat) (c : Code) : XC := @Code.rec (fun _ => XC)
  (fun t h K => K .normal t h)
  (fun _ ops draw => xregion P tt N fb ops draw)
  (fun _ _ a b => xseq a b)
  (fun c _ _ a b => xcond c a b)
  (fun id _ b => xblock id b)
  (fun b _ => xleaf P N (.loop b))
  (fun f ps a b _ _ => xleaf P N (.rangeFunc f ps a b))
  (fun id t h K => K (.exit id) t h)
  (fun b _ => xleaf P N (.scope b))
  (fun _ t h K => K .normal t h)
  (fun l t h K => K (.goto l) t h)
  (fun t h K => K .ret t h)
  (fun why => xleaf P N (.refuse why))
  c
section
variable {P : Program} {tt : TT} {N : Nat} {fb : List Nat} {o : Oper} {t : Tr} {h : Hp}
def freshF (ds : List Nat) : S → S
  | .ref u off => if ds.contains u then .junk else .ref u off
  | s => s
theorem freshK_spec {ds : List Nat} (s : S) (K : S → Prop) (h : freshK ds s K) : K (freshF ds s) := by
  cases s with
  | ref u off =>
    simp only [freshK, memN_spec] at h
    show K (if ds.contains u then .junk else .ref u off)
    split at h
    · rename_i hb; rw [if_pos hb]; exact h
    · rename_i hb; rw [if_neg (by rw [hb]; simp)]; exact h
  | c x => cases x <;> exact h
  | _ => exact h
theorem nameS_fresh {ds : List Nat} {u : Nat} (hd : ∀ d ∈ ds, d < BIG) (hu : ¬ u < NAM) (s : S) : fresh1 ds u (nameS s) = nameS s := by
  cases s <;> rfl
theorem xq1_sound (htt : TTok P tt) (hNB : N ≤ BIG) {all : List Oper} {rest : XL} {run : Bool} {kn : List Nat} {t : Tr} {h : Hp} {K : Tr → Hp → Prop} (hg : guardOk all.toArray o (envT t h) = some run) (hk : xq1 P tt N fb all o rest run kn t h K) :
    ∃ eff, DG P N fb all.toArray o (envT t h) eff ∧ ∃ t' h' kn', eff.app (envT t h) = envT t' h' ∧ rest kn' t' h' K := by
  unfold xq1 at hk
  split at hk
  · exact hk.elim
  · rename_i hdr
    cases run with
    | false =>
      simp only at hk
      split at hk
      · rename_i d hdst
        split at hk
        · exact hk.elim
        · rename_i hb
          obtain ⟨t2, h1, h2⟩ := setK_spec hk
          refine ⟨_, dg_skip hg hdr (fun u hu => by rw [hdst] at hu; injection hu with hu; exact hu ▸ blb_lt hb), _, _, _, ?_, h2⟩
          show upd _ o.dst _ = _
          rw [hdst, ← envT_set (nam (blb_lt hb)) h1]
      · rename_i hdst
        refine ⟨_, dg_skip hg hdr (fun u hu => by rw [hdst] at hu; cases hu), _, _, _, ?_, hk⟩
        show upd _ o.dst _ = _
        rw [hdst]; rfl
    | true =>
      simp only at hk
      split at hk
      · rename_i hdst
        split at hk
        · rename_i T x y hop
          split at hk
          · rename_i i hi
            have hsh := shI_ok (htt _ _ hi)
            have hk := ovK_spec (h := h) hk
            split at hk
            · rename_i q1 q2 q3 hy
              split at hk
              · rename_i ha hl
                have hl := Nat.eq_of_beq_eq_true hl
                have h2 := ovK_spec (h := h) hk
                split at h2
                · rename_i u off hx
                  split at h2
                  · rename_i cs hb hcs
                    have hu := blb_lt hb
                    obtain ⟨h3, h4⟩ := patchK_spec h2
                    obtain ⟨t2, h5, h6⟩ := setK_spec h4
                    have hsh' : tshape P T = some (false, 1) := by rw [hsh]; cases hq : shI i; rw [hq] at ha hl; simp at ha hl; rw [ha, hl]
                    refine ⟨_, dg_storeR hg hop hx (by rw [envT_lt (nam hu)]; exact hcs) hy hsh' h3 hdst hdr hu, _, _, _, ?_, h6⟩
                    show upd _ (some u) _ = _
                    rw [← envT_set (nam hu) h5]
                  · exact h2.elim
                · exact h2.elim
              · exact hk.elim
            obtain ⟨r, h1, h2⟩ := dK_spec (h := h) hk
            have h2 := cellsK_spec h2
            split at h2
            · rename_i hl
              have hl := Nat.eq_of_beq_eq_true hl
              have h2 := ovK_spec (h := h) h2
              split at h2
              · rename_i u off hx
                split at h2
                · rename_i cs hb hcs
                  have hu := blb_lt hb
                  obtain ⟨h3, h4⟩ := patchK_spec h2
                  obtain ⟨t2, h5, h6⟩ := setK_spec h4
                  refine ⟨_, dg_store hg hop hx (by rw [envT_lt (nam hu)]; exact hcs) h1 hsh hl h3 hdst hdr hu, _, _, _, ?_, h6⟩
                  show upd _ (some u) _ = _
                  rw [← envT_set (nam hu) h5]
                · rename_i cs hb hcs
                  have hu := blb_lt hb
                  obtain ⟨h3, h4⟩ := patchK_spec h2
                  obtain ⟨t2, h5, h6⟩ := setK_spec h4
                  refine ⟨_, dg_storeU hg hop hx (by rw [envT_lt (nam hu)]; exact hcs) h1 hsh hl h3 hdst hdr hu, _, _, _, ?_, h6⟩
                  show upd _ (some u) _ = _
                  rw [← envT_set (nam hu) h5]
                · exact h2.elim
              · exact h2.elim
            · exact h2.elim
          · exact hk.elim
        · exact hk.elim
      · rename_i d hdst
        split at hk
        · exact hk.elim
        · rename_i hdN
          have hd := blt_of hdN
          have hdB : d < BIG := Nat.lt_of_lt_of_le hd hNB
          split at hk
          · obtain ⟨s, h1, h2⟩ := hk
            obtain ⟨t2, h3, h4⟩ := setK_spec (sK_spec h2)
            refine ⟨_, h1, _, _, _, ?_, h4⟩
            show upd _ (some d) _ = _
            rw [← envT_set (nam hdB) h3]
          · split at hk
            · obtain ⟨eff, s, h', ⟨h1, h2⟩, h3⟩ := hk
              obtain ⟨t2, h4, h5⟩ := setK_spec (sK_spec h3)
              refine ⟨_, h1, _, _, _, ?_, h5⟩
              rw [h2, ← envT_set (nam hdB) h4]
            rename_i hw4
            split at hk
            · rename_i T x hop
              obtain ⟨r, h1, h2⟩ := dK_spec (h := h) hk
              obtain ⟨t2, h5, h6⟩ := setK_spec (cellsK_spec h2)
              refine ⟨_, dg_box hg hop h1 hdst hd hdB, _, _, _, ?_, h6⟩
              show upd _ (some d) _ = _
              rw [← envT_set (nam hdB) h5]
            · rename_i T hop
              split at hk
              · rename_i i hi
                split at hk
                · rename_i z hz
                  obtain ⟨t2, h5, h6⟩ := setK_spec hk
                  refine ⟨_, dg_alloc hg hop (zI_ok (htt _ _ hi) hz) hdst hd hdB, _, _, _, ?_, h6⟩
                  show upd _ (some d) _ = _
                  rw [← envT_set (nam hdB) h5]
                · exact hk.elim
              · exact hk.elim
            · split at hk
              · obtain ⟨s, h1, h2⟩ := yK_sound htt hdst hd hk
                split at h2
                · rename_i hn hr
                  obtain ⟨t2, h5, h6⟩ := setK_spec h2
                  have e0 : envT t (fun _ => S.junk) = noN (envT t h) := by
                    funext u
                    unfold noN envT
                    split <;> rfl
                  rw [e0] at h1
                  refine ⟨_, dg_free hg h1 hn hr hdr (fun u hu => by rw [hdst] at hu; injection hu with hu; exact hu ▸ hdB), _, _, _, ?_, h6⟩
                  show upd _ o.dst _ = _
                  rw [hdst, ← envT_set (nam hdB) h5]
                · exact h2.elim
              · rename_i hw6
                have hcl : clsOf fb o ≠ 0 := by
                  unfold clsOf
                  rw [hdst]
                  simp only
                  split
                  · decide
                  · rw [if_neg (by rw [← memN_spec]; intro e; exact absurd (hw6.symm.trans e) (by decide))]; decide
                obtain ⟨s, h1, h2⟩ := yK_sound htt hdst hd hk
                split at h2
                · rename_i hn hr
                  obtain ⟨t2, h5, h6⟩ := setK_spec h2
                  refine ⟨_, dg_yield hg h1.all hcl hn hr hdr (fun u hu => by rw [hdst] at hu; injection hu with hu; exact hu ▸ hdB), _, _, _, ?_, h6⟩
                  show upd _ o.dst _ = _
                  rw [hdst, ← envT_set (nam hdB) h5]
                · exact h2.elim
theorem barK_sound (htt : TTok P tt) (hNB : N ≤ BIG) {all : List Oper} {t : Tr} {h : Hp} {K : Tr → Hp → Prop} (hg : guardOk all.toArray o (envT t h) = some true) (hk : barK P tt N fb o t h K) : ∃ t' h', BStep P N all.toArray o (envT t h) (envT t' h') ∧ K t' h' := by
  have calm : ∀ {env env' : Env}, Step P N o env env' → CalmE env env' → guardOk all.toArray o env = some true → BStep P N all.toArray o env env' := fun h1 h2 h3 => ⟨.inl ⟨h3, h1⟩, fun t => (h2 t).1, fun t => (h2 t).2⟩
  have cname : ∀ (id : Nat) (s : S), NAM ≤ id → CalmE (envT t h) (upd (envT t h) (some id) (nameS s)) := fun id s _ => calm_upd _ _ _ (by cases s <;> rfl) (by intro _ _ e; cases s <;> cases e)
  unfold barK at hk
  split at hk
  · obtain ⟨id, s, ⟨hb, h1⟩, h2⟩ := hk
    refine ⟨t, _, ?_, h2⟩
    unfold hset
    rw [envT_name hb]
    exact calm h1 (cname id s hb) hg
  · rename_i d hdst
    split at hk
    · exact hk.elim
    · rename_i hdN
      have hd := blt_of hdN
      have hdB : d < BIG := Nat.lt_of_lt_of_le hd hNB
      split at hk
      · rename_i c hop
        split at hk
        · obtain ⟨t', h', ⟨h1, h2⟩, h3⟩ := hk
          exact ⟨t', h', calm h1 h2 hg, h3⟩
        split at hk
        · rename_i hcal
          obtain ⟨t2, h1, h2, h3⟩ := appK_sound (h := h) htt hNB hop hcal hdst hd hk
          exact ⟨t2, h, calm h1 h3 hg, h2⟩
        · obtain ⟨s, h', h1, h2⟩ := hk
          have h2 := sK_spec h2
          split at h2
          · rename_i hn hr
            obtain ⟨t', h3, h4⟩ := setK_spec h2
            refine ⟨t', h', ?_, h4⟩
            rw [envT_set (nam hdB) h3]
            refine calm h1 (fun u => ?_) hg
            by_cases e : u = d
            · subst e
              simp only [upd, if_true]
              exact ⟨(fun a b e => by rw [e] at hr; cases hr), fun _ => hn⟩
            · simp only [upd, if_neg e]
              by_cases hu : u < NAM
              · rw [envT_lt hu, envT_lt hu]; exact ⟨fun _ _ h => h, fun h => h⟩
              · simp only [envT, if_neg hu]
                exact ⟨(fun _ _ e => by cases hx : h' u <;> rw [hx] at e <;> cases e), (fun _ => by cases h' u <;> rfl)⟩
          · exact h2.elim
      · exact hk.elim
theorem xq_sound (htt : TTok P tt) (hNB : N ≤ BIG) {all : List Oper} {bar : List Nat} : ∀ {l : List Oper} {k : Nat} {kn : List Nat} {t : Tr} {h : Hp} {K : Tr → Hp → Prop}, xq P tt N fb all bar l k kn t h K → VB P N fb all.toArray bar (fun env => ∃ t h, env = envT t h ∧ K t h) k l (envT t h)
  | [], k, kn, t, h, K, hk => ⟨t, h, rfl, hk⟩
  | o :: rest, k, kn, t, h, K, hk => by
    change xqB P tt N fb all bar o (xq P tt N fb all bar rest) k kn t h K at hk
    unfold xqB at hk
    obtain ⟨run, kn', t', hg, he, hk⟩ := gK_sound (h := h) hk
    rw [← he]
    unfold VB
    split at hk
    · rename_i hm
      rw [if_pos (by rw [memN_spec] at hm; simpa using hm)]
      split at hk
      · obtain ⟨t2, h2, h3, h4⟩ := barK_sound htt hNB hg hk
        exact ⟨_, h3, xq_sound htt hNB h4⟩
      · exact hk.elim
    · rename_i hm
      rw [if_neg (by rw [memN_spec] at hm; simpa using hm)]
      obtain ⟨eff, h1, t2, h2, kn2, h3, h4⟩ := xq1_sound htt hNB hg hk
      exact ⟨eff, h1, by rw [h3]; exact xq_sound htt hNB h4⟩
theorem vb_mono {ops : Array Oper} {bar : List Nat} {K K' : Env → Prop} (hK : ∀ env, K env → K' env) : ∀ {l : List Oper} {k : Nat} {env : Env}, VB P N fb ops bar K k l env → VB P N fb ops bar K' k l env
  | [], k, env, h => hK env h
  | o :: l, k, env, h => by
    unfold VB at h ⊢
    split
    · rename_i hm
      rw [if_pos hm] at h
      obtain ⟨env', h1, h2⟩ := h
      exact ⟨env', h1, vb_mono hK h2⟩
    · rename_i hm
      rw [if_neg hm] at h
      obtain ⟨eff, h1, h2⟩ := h
      exact ⟨eff, h1, vb_mono hK h2⟩
theorem xdrawn_sound (htt : TTok P tt) (hNB : N ≤ BIG) {id : Nat} {l : List Oper} {K : Tr → Hp → Prop} {Q : Exit → Env → Prop} (hQ : ∀ t h, K t h → Q .normal (envT t h)) (hm : P.follows .mixedOrders = true) {bar : List Nat} (hB : drawnB fb l.toArray bar = true)
    (hk : mapK (freshK (news l)) t fun t => clearK (news l) t fun t => xq P tt N fb l bar l 0 [] t h K) : VC P N (.region id l.toArray true) (envT t h) Q := by
  obtain ⟨t1, h1, hk⟩ := mapK_spec (f := freshF (news l)) rfl freshK_spec hk
  obtain ⟨t2, h2, hds, hk⟩ := clearK_spec hk
  refine vc_weaken (env' := envT t2 h) (fun u => ?_) (vc_drawnB bar hm hB ?_)
  · by_cases hu : u < NAM
    · rw [envT_lt hu, envT_lt hu, h2, h1]
      by_cases hc : (news l).contains u = true
      · right; simp only [hc, if_true]
      · simp only [hc, Bool.false_eq_true, if_false]
        cases t.get u with
        | ref d off =>
          simp only [freshF]
          by_cases hd : (news l).contains d = true
          · right; simp only [hd, if_true]
          · left; simp only [hd, Bool.false_eq_true, if_false]
        | _ => left; rfl
    · left; simp only [envT, if_neg hu]
  · have e : freshen l (envT t2 h) = envT t2 h := by
      funext u
      unfold freshen
      by_cases hu : u < NAM
      · rw [envT_lt hu, h2, h1]
        by_cases hc : (news l).contains u = true
        · simp only [hc, if_true]; rfl
        · simp only [hc, Bool.false_eq_true, if_false]
          cases t.get u with
          | ref d off =>
            simp only [freshF]
            by_cases hd : (news l).contains d = true
            · simp only [hd, if_true]; rfl
            · simp only [hd, Bool.false_eq_true, if_false, fresh1]
          | box cs => simp only [freshF, fresh1, hc, Bool.false_eq_true, if_false]
          | ubox cs => simp only [freshF, fresh1, hc, Bool.false_eq_true, if_false]
          | _ => rfl
      · simp only [envT, if_neg hu]
        exact nameS_fresh hds hu _
    rw [e]
    have := xq_sound htt hNB hk
    refine vb_mono ?_ this
    rintro env ⟨t, h, rfl, hk⟩
    exact hQ t h hk
end
end Go.Vm
end
section
namespace Go.Vm
open Go.RowKit
def liftK (K : Exit → Tr → Hp → Prop) : Exit → Env → Prop := fun e env => ∃ t h, env = envT t h ∧ K e t h
section
variable {P : Program} {tt : TT} {N : Nat} {fb : List Nat} {t : Tr} {h : Hp} {K : Exit → Tr → Hp → Prop}
theorem xcode_sound (htt : TTok P tt) (hNB : N ≤ BIG) : ∀ {c : Code} {t : Tr} {h : Hp} {K : Exit → Tr → Hp → Prop}, xcode P tt N fb c t h K → VC P N c (envT t h) (liftK K) := by
  intro c
  induction c with
  | skip => intro t h K hk; exact vc_skip ⟨t, h, rfl, hk⟩
  | label l => intro t h K hk; exact vc_label ⟨t, h, rfl, hk⟩
  | ret => intro t h K hk; exact vc_ret ⟨t, h, rfl, hk⟩
  | exit id => intro t h K hk; exact vc_exit ⟨t, h, rfl, hk⟩
  | goto l => intro t h K hk; exact vc_goto ⟨t, h, rfl, hk⟩
  | region id ops draw =>
    intro t h K hk
    cases draw with
    | false =>
      obtain ⟨l⟩ := ops
      exact vc_region (xops_sound htt hNB hk)
    | true =>
      obtain ⟨l⟩ := ops
      obtain ⟨⟨h1, h2⟩, h3⟩ := hk
      exact xdrawn_sound htt hNB (fun t h hk => ⟨t, h, rfl, hk⟩) h1 h2 h3
  | seq a b iha ihb =>
    intro t h K hk
    refine vc_then (vc_mono (iha hk) ?_)
    rintro e env ⟨t', h', rfl, hk'⟩
    cases e with
    | normal => exact ihb hk'
    | _ => exact ⟨t', h', rfl, hk'⟩
  | cond c a b iha ihb =>
    intro t h K hk
    have hk := ovK_spec (h := h) hk
    split at hk
    · rename_i p hp
      have hv : vd (envT t h) c = some (.sc (.bool p)) := by unfold vd; rw [hp]; rfl
      cases c with
      | tmp u =>
        simp only at hk
        split at hk
        · exact hk.elim
        · rename_i hb
          have hlt := ble_lt hb
          have hs : (envT t h) u = .c (.d (.sc (.bool p))) := by
            have h2 : slotV u (envT t h u) = .c (.d (.sc (.bool p))) := hp
            cases hx : envT t h u with
            | c x => rw [hx] at h2; exact h2
            | _ => rw [hx] at h2; cases h2
          have key : ∀ t', (∀ v, t'.get v = if v = u then .c (.d (.sc (.bool p))) else t.get v) → envT t' h = envT t h := by
            intro t' h1
            rw [envT_set hlt h1]
            funext v
            simp only [upd]
            split
            · rename_i e; subst e; exact hs.symm
            · rfl
          refine vc_if hv (fun e => ?_) (fun e => ?_)
          · obtain ⟨t', h1, h2⟩ := setK_spec (hk.1 e)
            rw [← key t' (by rw [e]; exact h1)]
            exact iha h2
          · obtain ⟨t', h1, h2⟩ := setK_spec (hk.2 e)
            rw [← key t' (by rw [e]; exact h1)]
            exact ihb h2
      | _ => exact vc_if hv (fun e => iha (hk.1 e)) (fun e => ihb (hk.2 e))
    · exact hk.elim
  | block id b ih =>
    intro t h K hk
    refine vc_block (vc_mono (ih hk) ?_)
    rintro e env ⟨t', h', rfl, hk'⟩
    cases e with
    | exit i =>
      simp only at hk'
      show if i = id then _ else _
      split at hk'
      · rename_i hb; rw [if_pos (Nat.eq_of_beq_eq_true hb)]; exact ⟨t', h', rfl, hk'⟩
      · rename_i hb; rw [if_neg (fun e => by rw [e, Nat.beq_refl] at hb; cases hb)]; exact ⟨t', h', rfl, hk'⟩
    | _ => exact ⟨t', h', rfl, hk'⟩
  | _ => intro t h K hk; exact hk.out
def copyK : List Nat → Tr → Tr → (Tr → Prop) → Prop
  | [], _, t1, K => K t1
  | a :: L, t, t1, K => sK (t.get a) fun s => setK 20 t1 a s fun t1 => copyK L t t1 K
theorem copyK_spec : ∀ {L : List Nat} {t t1 : Tr} {K : Tr → Prop}, copyK L t t1 K → ∃ t', (∀ u, t'.get u = if L.contains u then t.get u else t1.get u) ∧ K t'
  | [], t, t1, K, h => ⟨t1, by simp, h⟩
  | a :: L, t, t1, K, h => by
    obtain ⟨t2, h1, h2⟩ := setK_spec (sK_spec h)
    obtain ⟨t3, h3, h4⟩ := copyK_spec h2
    refine ⟨t3, fun u => ?_, h4⟩
    rw [h3, h1, List.contains_cons]
    by_cases e : u = a
    · subst e; simp
    · have : (u == a) = false := by simpa using e
      simp [this, e]
def setsK : List (Nat × S) → Tr → (Tr → Prop) → Prop
  | [], t, K => K t
  | (a, s) :: F, t, K => setK 20 t a s fun t => setsK F t K
theorem setsK_spec : ∀ {F : List (Nat × S)} {t : Tr} {K : Tr → Prop}, setsK F t K → ∃ t', (∀ u, (∃ s, (u, s) ∈ F ∧ t'.get u = s) ∨ ((∀ s, (u, s) ∉ F) ∧ t'.get u = t.get u)) ∧ K t'
  | [], t, K, h => ⟨t, fun u => .inr ⟨by simp, rfl⟩, h⟩
  | (a, s) :: F, t, K, h => by
    obtain ⟨t1, h1, h2⟩ := setK_spec h
    obtain ⟨t2, h3, h4⟩ := setsK_spec h2
    refine ⟨t2, fun u => ?_, h4⟩
    rcases h3 u with ⟨s', k1, k2⟩ | ⟨k1, k2⟩
    · exact .inl ⟨s', List.mem_cons_of_mem _ k1, k2⟩
    · rw [h1] at k2
      by_cases e : u = a
      · subst e
        exact .inl ⟨s, List.mem_cons_self .., by simpa using k2⟩
      · refine .inr ⟨fun s' hm => ?_, by simpa [e] using k2⟩
        rcases List.mem_cons.1 hm with h | h
        · injection h with h; exact e h
        · exact k1 s' h
def startK (L : List Nat) (F : List (Nat × S)) (t : Tr) (K : Tr → Prop) : Prop := copyK L t .leaf fun t1 => setsK F t1 K
def ent (t : Tr) : List (Nat × S) → Prop
  | [] => True
  | (a, s) :: F => t.get a = s ∧ ent t F
theorem ent_mem {t : Tr} : ∀ {F : List (Nat × S)}, ent t F → ∀ a s, (a, s) ∈ F → t.get a = s
  | [], _, a, s, h => by cases h
  | (a', s') :: F, ⟨h1, h2⟩, a, s, h => by
    rcases List.mem_cons.1 h with h | h
    · injection h with e1 e2; subst e1 e2; exact h1
    · exact ent_mem h2 a s h
theorem mapf_at {α β : Type} {f g : α → β} : ∀ {L : List α}, L.map f = L.map g → ∀ a ∈ L, f a = g a
  | [], _, a, h => by cases h
  | b :: L, h, a, ha => by
    simp only [List.map_cons, List.cons.injEq] at h
    rcases List.mem_cons.1 ha with rfl | ha
    · exact h.1
    · exact mapf_at h.2 a ha
theorem start_sub {L : List Nat} {F : List (Nat × S)} {t0 t : Tr} {h : Hp} {K : Tr → Prop} (hs : startK L F t0 K) (hL : L.map t.get = L.map t0.get) (hF : ent t F) : ∃ t1, (∀ u, envT t1 h u = envT t h u ∨ envT t1 h u = .junk) ∧ K t1 := by
  obtain ⟨t1, h1, h2⟩ := copyK_spec hs
  obtain ⟨t2, h3, h4⟩ := setsK_spec h2
  refine ⟨t2, fun u => ?_, h4⟩
  by_cases hu : u < NAM
  · rw [envT_lt hu, envT_lt hu]
    rcases h3 u with ⟨s, k1, k2⟩ | ⟨k1, k2⟩
    · left; rw [k2, ent_mem hF u s k1]
    · rw [k2, h1]
      by_cases hc : L.contains u = true
      · left; rw [if_pos hc]; exact (mapf_at hL u (by simpa using hc)).symm
      · right; rw [if_neg hc]; rfl
  · left; simp only [envT, if_neg hu]
def rndK {σ : Type} (L : List Nat) (F : σ → List (Nat × S)) (G : σ → Hp) (I : σ → Prop) (μ : σ → Nat) (t0 : Tr) (m : Nat) (K : Exit → Tr → Hp → Prop) : Exit → Tr → Hp → Prop
  | .normal, t, h => ∃ s, I s ∧ μ s < m ∧ L.map t.get = L.map t0.get ∧ ent t (F s) ∧ G s = h
  | e, t, h => K e t h
theorem xloop (htt : TTok P tt) (hNB : N ≤ BIG) {body : Code} (L : List Nat) {σ : Type} (F : σ → List (Nat × S)) (G : σ → Hp) (I : σ → Prop) (μ : σ → Nat) (s0 : σ) (h0 : I s0) (hF : ent t (F s0)) (hG : G s0 = h)
    (round : ∀ s, I s → startK L (F s) t fun t1 => xcode P tt N fb body t1 (G s) (rndK L F G I μ t (μ s) K)) : Leaf (VC P N (.loop body) (envT t h) fun e env => ∃ t h, env = envT t h ∧ K e t h) := by
  refine ⟨vc_loop (fun n env => ∃ s t', I s ∧ n = μ s ∧ L.map t'.get = L.map t.get ∧ ent t' (F s) ∧ env = envT t' (G s)) (n := μ s0) ⟨s0, t, h0, rfl, rfl, hF, by rw [hG]⟩ ?_⟩
  rintro n env ⟨s, t', h1, rfl, h2, h3, rfl⟩
  obtain ⟨t1, h4, h5⟩ := start_sub (h := G s) (round s h1) h2 h3
  refine vc_weaken h4 (vc_mono (xcode_sound htt hNB h5) ?_)
  rintro e env ⟨t2, h2, rfl, hk⟩
  cases e with
  | normal =>
    obtain ⟨s', k1, k2, k3, k4, k5⟩ := hk
    exact ⟨_, k2, s', t2, k1, rfl, k3, k4, by rw [k5]⟩
  | _ => exact ⟨t2, h2, rfl, hk⟩
theorem xloopR (htt : TTok P tt) (hNB : N ≤ BIG) {body : Code} (L : List Nat) {σ : Type} (F : σ → List (Nat × S)) (I : σ → Prop) (μ : σ → Nat) (s0 : σ) (h0 : I s0) (hF : ent t (F s0))
    (round : ∀ s, I s → startK L (F s) t fun t1 => xcode P tt N fb body t1 h (rndK L F (fun _ => h) I μ t (μ s) K)) : Leaf (VC P N (.loop body) (envT t h) fun e env => ∃ t h, env = envT t h ∧ K e t h) :=
  xloop htt hNB L F (fun _ => h) I μ s0 h0 hF rfl round
end
end Go.Vm
end
section
namespace Go.Vm
open Go.RowKit
section
variable {P : Program} {tt : TT} {N : Nat} {fb stop : List Nat} {t : Tr} {h : Hp} {K : Exit → Tr → Hp → Prop}
def argsT : Nat → List D → Tr → (Tr → Prop) → Prop
  | _, [], t, K => K t
  | k, d :: l, t, K => setK 20 t k (.c (.d d)) fun t => argsT (Nat.succ k) l t K
theorem argsT_spec : ∀ {l : List D} {k : Nat} {t : Tr} {K : Tr → Prop}, argsT k l t K → ∃ t', (∀ u, t'.get u = if u < k then t.get u else match l[u - k]? with | some d => .c (.d d) | none => t.get u) ∧ K t'
  | [], k, t, K, h => ⟨t, by simp, h⟩
  | d :: l, k, t, K, h => by
    obtain ⟨t1, h1, h2⟩ := setK_spec h
    obtain ⟨t2, h3, h4⟩ := argsT_spec h2
    refine ⟨t2, fun u => ?_, h4⟩
    rw [h3, h1]
    rcases Nat.lt_trichotomy u k with e | e | e
    · rw [if_pos (show u < Nat.succ k by omega), if_neg (by omega), if_pos e]
    · subst e; rw [if_pos (show u < Nat.succ u by omega), if_pos rfl, if_neg (by omega), Nat.sub_self]; rfl
    · rw [if_neg (show ¬ u < Nat.succ k by omega), if_neg (show ¬ u = k by omega), if_neg (show ¬ u < k by omega), show u - k = (u - Nat.succ k) + 1 by omega, List.getElem?_cons_succ]
def resvK (tt : TT) (t : Tr) : List ResultVar → (List C → Prop) → Prop
  | [], K => K []
  | .tmp u :: l, K => match Nat.ble 1000000 u, t.get u with
    | false, .c (.d x) => resvK tt t l fun cs => K (.d x :: cs)
    | false, .c (.own τ e xs) => resvK tt t l fun cs => K (.own τ e xs :: cs)
    | false, .c .nil => resvK tt t l fun cs => K (.nil :: cs)
    | _, _ => False
  | .cell u T :: l, K => match Nat.ble 1000000 u, t.get u, tt.get T with
    | false, .box cs, some i => partK (shI i) cs 0 fun d => resvK tt t l fun cs => K (.d d :: cs)
    | _, _, _ => False
theorem resvK_spec (htt : TTok P tt) : ∀ {l : List ResultVar} {K : List C → Prop}, resvK tt t l K → ∃ cs, vres P (envT t h) l = some cs ∧ K cs
  | [], K, hk => ⟨[], rfl, hk⟩
  | .tmp u :: l, K, hk => by
    simp only [resvK] at hk
    split at hk
    all_goals first | exact hk.elim | skip
    all_goals
      rename_i hb hs
      obtain ⟨cs, h1, h2⟩ := resvK_spec htt hk
      refine ⟨_ :: cs, ?_, h2⟩
      simp only [vres, vres1, envT_lt (ble_lt hb), hs, h1]
  | .cell u T :: l, K, hk => by
    simp only [resvK] at hk
    split at hk
    · rename_i cs i hb hs hi
      obtain ⟨d, h1, h2⟩ := partK_spec hk
      obtain ⟨cs', h3, h4⟩ := resvK_spec htt h2
      exact ⟨_, by simp only [vres, vres1, envT_lt (ble_lt hb), hs, shI_ok (htt _ _ hi), h1, h3, Option.map_some], h4⟩
    · exact hk.elim
def postL (h : Hp) : List (Nat × S) → Prop
  | [] => True
  | (n, s) :: l => (NAM ≤ n ∧ h n = s) ∧ postL h l
theorem postL_spec {post : List (Nat × S)} (h1 : postL h post) (h2 : ∀ p ∈ post, thing p.2 = true) : ∀ p ∈ post, envT t h p.1 = p.2 := by
  induction post with
  | nil => intro p hp; cases hp
  | cons q l ih =>
    obtain ⟨n, s⟩ := q
    intro p hp
    rcases List.mem_cons.1 hp with rfl | hp
    · have ht := h2 (n, s) (List.mem_cons_self ..)
      simp only [envT_at h1.1.1, h1.1.2]
      cases s <;> first | rfl | cases ht
    · exact ih h1.2 (fun q hq => h2 q (List.mem_cons_of_mem _ hq)) p hp
def finK (P : Program) (tt : TT) (rs : List ResultVar) (res : List C) (post : List (Nat × S)) : Exit → Tr → Hp → Prop
  | .normal, t, h => resvK tt t rs fun cs => Leaf (fitsL P cs res ∧ postL h post)
  | .ret, t, h => resvK tt t rs fun cs => Leaf (fitsL P cs res ∧ postL h post)
  | _, _, _ => False
def hOf : List (Nat × S) → Hp
  | [] => fun _ => .junk
  | (n, s) :: l => hset (hOf l) n s
theorem hOf_find : ∀ (l : List (Nat × S)) (u : Nat), hOf l u = match l.find? fun p => p.1 == u with | some p => p.2 | none => .junk
  | [], u => rfl
  | (n, s) :: l, u => by
    simp only [hOf, hset, List.find?_cons]
    by_cases e : u = n
    · subst e; simp
    · have : (n == u) = false := by simpa using fun h => e h.symm
      simp only [if_neg e, this]; exact hOf_find l u
theorem xfnH (htt : TTok P tt) {f : FuncId} {fn : Func} {c : Code} {args : List D} {res : List C} {pre post : List (Nat × S)} {rs : List ResultVar} (fb : List Nat) (hf : P.funcs[f]? = some fn) (hb : fn.body = some c) (hN : fn.ntmps = N) (hrs : fn.results.toList = rs) (hargs : args.length ≤ N) (hNB : N ≤ BIG)
    (hbig : ∀ p ∈ pre, NAM ≤ p.1) (hp : ∀ p ∈ pre, thing p.2 = true) (hq : ∀ p ∈ post, thing p.2 = true) (hk : argsT 0 args .leaf fun t => xcode P tt N fb c t (hOf pre) (finK P tt rs res post)) : ContractH P f args pre res post := by
  subst hrs
  refine contractH_of hf hb hN hargs hp hq ?_
  obtain ⟨t, h1, h2⟩ := argsT_spec hk
  have e : envH args pre = envT t (hOf pre) := by
    funext u
    unfold envH
    by_cases hu : u < NAM
    · rw [envT_lt hu, h1]
      simp only [Nat.not_lt_zero, if_false, Nat.sub_zero]
      cases args[u]? with
      | some d => rfl
      | none =>
        have : (pre.find? fun p => p.1 == u) = none := by
          rw [List.find?_eq_none]
          intro p hm
          have := hbig p hm
          simp only [beq_iff_eq]; omega
        simp only [this]; rfl
    · have hge : NAM ≤ u := by omega
      have hbn : BIG ≤ NAM := by decide
      rw [envT_at hge, hOf_find, List.getElem?_eq_none (by omega)]
      cases hfd : pre.find? fun p => p.1 == u with
      | none => rfl
      | some p =>
        have := hp p (List.mem_of_find?_eq_some hfd)
        simp only
        cases hs : p.2 <;> rw [hs] at this <;> first | rfl | cases this
  rw [e]
  refine vc_mono (xcode_sound htt hNB h2) ?_
  rintro e env ⟨t', h', rfl, hk⟩
  have key : (resvK tt t' fn.results.toList fun cs => Leaf (fitsL P cs res ∧ postL h' post)) → (∃ cs, vres P (envT t' h') fn.results.toList = some cs ∧ fitsL P cs res) ∧ ∀ p ∈ post, envT t' h' p.1 = p.2 := by
    intro hk
    obtain ⟨cs, h1, ⟨h2, h3⟩⟩ := resvK_spec (h := h') htt hk
    exact ⟨⟨cs, h1, h2⟩, postL_spec h3 hq⟩
  cases e with
  | normal => exact ⟨.inl rfl, key hk⟩
  | ret => exact ⟨.inr rfl, key hk⟩
  | _ => exact hk.elim
theorem xfn (htt : TTok P tt) {f : FuncId} {fn : Func} {c : Code} {args : List D} {res : List C} {rs : List ResultVar} (fb : List Nat) (hf : P.funcs[f]? = some fn) (hb : fn.body = some c) (hN : fn.ntmps = N) (hrs : fn.results.toList = rs) (hargs : args.length ≤ N) (hNB : N ≤ BIG)
    (hk : argsT 0 args .leaf fun t => xcode P tt N fb c t (fun _ => .junk) (finK P tt rs res [])) : Contract P f args res := by
  have hc := xfnH (pre := []) (post := []) htt fb hf hb hN hrs hargs hNB (by simp) (by simp) (by simp) hk
  intro ro w vs τ h1 h2 h3 h4
  refine (hc ro w vs τ h1 h2 h3 h4 (by simp)).mono ?_
  rintro e w' ⟨v, ro', rfl, hg, hs, _⟩
  exact ⟨v, ro', rfl, hg.plain, hs⟩
end
end Go.Vm
end
section
namespace Go.Vm
open Go.RowKit
section
variable {P : Program} {T : TypeId} {x y : Operand}
theorem x_bin {op : BinOp} {u v r : Value} {K : Value → Prop} (h : pureRun P (do eqGuard op T x y u v; binOp op T u v : Sem Value) = some r) (hp : plainV r = true) (hK : K r) : ∃ r, pureRun P (do eqGuard op T x y u v; binOp op T u v : Sem Value) = some r ∧ plainV r = true ∧ K r := ⟨r, h, hp, hK⟩
theorem x_add {k : IntKind} {a b c : Int} {K : Value → Prop} (hK : K (.int k c)) (h : k.wrap (a + b) = c := by first | exact IntWalk.i64_in _ (by first | omega | (simp only [List.length_map, List.length_append, List.length_nil, List.length_cons, List.length_take, List.length_drop]; omega)) | rfl) : ∃ r, pureRun P (do eqGuard .add T x y (.int k a) (.int k b); binOp .add T (.int k a) (.int k b) : Sem Value) = some r ∧ plainV r = true ∧ K r := ⟨_, pr_add h, rfl, hK⟩
theorem x_inc {n : Nat} {K : Value → Prop} (hK : K (.int .i64 ((n + 1 : Nat) : Int))) (h : n + 1 ≤ 9223372036854775807 := by first | omega | (simp only [List.length_map, List.length_append, List.length_nil, List.length_cons, List.length_take, List.length_drop]; omega)) : ∃ r, pureRun P (do eqGuard .add T x y (.int .i64 (n : Int)) (.int .i64 1); binOp .add T (.int .i64 (n : Int)) (.int .i64 1) : Sem Value) = some r ∧ plainV r = true ∧ K r := ⟨_, pr_add (IntWalk.i64_in _ (by omega)), rfl, hK⟩
end
theorem x_ix {xs : List D} {j : Nat} {y : D} {i : Int} {K : Nat → D → Prop} (hy : xs[j]? = some y) (hK : K j y) (hi : i = (j : Int) := by rfl) : ∃ (j : Nat) (y : D), i = (j : Int) ∧ xs[j]? = some y ∧ K j y := ⟨j, y, hi, hy, hK⟩
theorem x_ixI {xs : List D} {y : D} {i : Int} {K : Nat → D → Prop} (hy : xs[i.toNat]? = some y) (hK : K i.toNat y) (h0 : 0 ≤ i := by omega) : ∃ (j : Nat) (y : D), i = (j : Int) ∧ xs[j]? = some y ∧ K j y := ⟨i.toNat, y, (Int.toNat_of_nonneg h0).symm, hy, hK⟩
theorem x_len {α : Type} {a n : α} {K : α → Prop} (hK : K n) (h : a = n := by first | exact List.length_map .. | rfl) : ∃ n, a = n ∧ K n := ⟨n, h, hK⟩
theorem x_call {P : Program} {f : FuncId} {ds : List D} {res : List C} {K : List C → Prop} (he : enters P f = true) (hc : Contract P f ds res) (hK : K res) : ∃ res, (enters P f = true ∧ Contract P f ds res) ∧ K res := ⟨res, ⟨he, hc⟩, hK⟩
theorem Sim.nil_own {P : Program} {N base : Nat} {w0 : World} {ro0 : Start} {env : Env} {a : Act} {w : World} (h : Sim P N base w0 ro0 env a w) {u : Nat} {τ e : Nat} (hu : env u = .c .nil) (he : 0 < P.cellsOf e) : Sim P N base w0 ro0 (upd env (some u) (.c (.own τ e []))) a w := by
  obtain ⟨ro, blk, h⟩ := h
  refine ⟨ro, blk, h.below, h.room, h.nodef, h.size, h.old, h.new, h.uniq, h.given, fun t ht => ?_, fun t => ?_⟩
  · by_cases et : t = u
    · subst et; simp [upd] at ht
    · simp only [upd, if_neg et] at ht; exact h.left t ht
  · have hs := h.sat t
    by_cases et : t = u
    · subst et
      rw [hu] at hs
      simp only [upd, if_true]
      have hv : a.tmps.getD t undef = .slice none 0 0 := hs
      exact ⟨P.cellsOf e, [], he, rfl, by rw [hv]; exact World.ownsRow_nil w base e _, by simp, by simpa [flat] using Reps.nil, fun g hg => by rw [hv] at hg; simp [Value.ownBlock] at hg⟩
    · simp only [upd, if_neg et]; exact hs
theorem x_rnd {σ : Type} {L : List Nat} {F : σ → List (Nat × S)} {G : σ → Hp} {I : σ → Prop} {μ : σ → Nat} {t0 t : Tr} {h : Hp} {m : Nat} (s : σ) (hI : I s) (hm : μ s < m) (hL : L.map t.get = L.map t0.get) (hE : ent t (F s)) (hG : G s = h) : ∃ s, I s ∧ μ s < m ∧ L.map t.get = L.map t0.get ∧ ent t (F s) ∧ G s = h := ⟨s, hI, hm, hL, hE, hG⟩
theorem x_ent {t : Tr} {a : Nat} {s : S} {F : List (Nat × S)} (h : t.get a = s) (h' : ent t F) : ent t ((a, s) :: F) := ⟨h, h'⟩
theorem x_ret {P : Program} {cs res : List C} {h : Hp} (hf : fitsL P cs res) : Leaf (fitsL P cs res ∧ postL h []) := ⟨hf, trivial⟩
class BP (b : Bool) (p q : outParam Prop) : Prop where
  yes : b = true → p
  no : b = false → q
instance bp_dec (p : Prop) [d : Decidable p] : BP (@decide p d) p (¬ p) := ⟨of_decide_eq_true, of_decide_eq_false⟩
instance bp_not (b : Bool) (p q : Prop) [h : BP b p q] : BP (!b) q p := ⟨fun e => h.no (by cases b <;> simp_all), fun e => h.yes (by cases b <;> simp_all)⟩
instance (priority := low) bp_any (b : Bool) : BP b (b = true) (b = false) := ⟨id, id⟩
theorem br {b : Bool} {p q A B : Prop} [h : BP b p q] (hA : p → A) (hB : q → B) : (b = true → A) ∧ (b = false → B) := ⟨fun e => hA (h.yes e), fun e => hB (h.no e)⟩
theorem brT {A B : Prop} (hA : A) : (true = true → A) ∧ (true = false → B) := ⟨fun _ => hA, fun h => nomatch h⟩
end Go.Vm
end
section
namespace Go.Vm
open Go.RowKit
def allFrozen : Roles := fun _ => .frozen
theorem okFrozen (b off : Nat) : okAt allFrozen b off := trivial
section
variable {P : Program} {w : World}
def Cells (P : Program) (w : World) (t : TypeId) {α : Type} (enc : α → D) (ok : α → Prop) : Prop := ∀ es, Reads P w t es → ∃ x : α, Reps allFrozen w es (enc x).cells ∧ ok x
theorem cells_at : ∀ {ess : List (List Value)} {b off sz : Nat}, (∀ (i : Nat) (es : List Value), ess[i]? = some es → es.length = sz ∧ ∀ (j : Nat) (u : Value), es[j]? = some u → w.cell? ⟨b, off + i * sz + j, none⟩ = some u) →
    ess.flatten.length = ess.length * sz ∧ ∀ (j : Nat) (u : Value), ess.flatten[j]? = some u → w.cell? ⟨b, off + j, none⟩ = some u
  | [], b, off, sz, _ => ⟨by simp, by simp⟩
  | es :: ess, b, off, sz, h => by
    obtain ⟨h0, h1⟩ := h 0 es rfl
    obtain ⟨k0, k1⟩ := cells_at (ess := ess) (b := b) (off := off + sz) (sz := sz) (fun i es' hes => by
      obtain ⟨g0, g1⟩ := h (i + 1) es' (by simpa using hes)
      refine ⟨g0, fun j u hu => ?_⟩
      have := g1 j u hu
      rw [Nat.add_mul, Nat.one_mul] at this
      rw [show off + sz + i * sz + j = off + (i * sz + sz) + j by omega]; exact this)
    refine ⟨by rw [List.flatten_cons, List.length_append, k0, h0, List.length_cons, Nat.add_mul, Nat.one_mul, Nat.add_comm], fun j u hu => ?_⟩
    rw [List.flatten_cons] at hu
    by_cases hj : j < es.length
    · rw [List.getElem?_append_left hj] at hu
      have := h1 j u hu
      simpa using this
    · rw [List.getElem?_append_right (by omega)] at hu
      have := k1 (j - es.length) u hu
      rw [h0] at this
      rw [show off + j = off + sz + (j - sz) by omega]; exact this
theorem reps_flat {α : Type} {enc : α → D} : ∀ {ps : List (List Value × α)}, (∀ p ∈ ps, Reps allFrozen w p.1 (enc p.2).cells) → Reps allFrozen w (ps.map (·.1)).flatten (flat ((ps.map (·.2)).map enc))
  | [], _ => by simpa [flat] using Reps.nil
  | p :: ps, h => by
    have h1 := h p (List.mem_cons_self ..)
    have h2 := reps_flat (ps := ps) fun q hq => h q (List.mem_cons_of_mem _ hq)
    simp only [List.map_cons, List.flatten_cons, flat, List.flatMap_cons] at h2 ⊢
    exact h1.append h2
theorem row_of {t e : TypeId} {sz : Nat} {α : Type} {enc : α → D} {ok : α → Prop} (ht : P.underlying t = some (.slice e)) (hsz : P.cellsOf e = sz) (h0 : 0 < sz) (hw : ∀ x, (enc x).cells.length = sz) (hel : Cells P w e enc ok) {a : Option Addr} {l c : Nat} (h : Reads P w t [.slice a l c]) :
    ∃ xs : List α, Rep allFrozen w (.slice a l c) (.row (xs.map enc)) ∧ ∀ x ∈ xs, ok x := by
  rcases h.slice ht with h | ⟨ad, len, cap, h, h1, h2, h3⟩
  · injection h with h; injection h with h4 h5 h6
    subst h4 h5 h6
    exact ⟨[], .nil (by simp [maxLen]), by simp⟩
  · injection h with h; injection h with h4 h5 h6
    subst h4 h5 h6
    rw [hsz] at h3
    obtain ⟨ps, hl, hp⟩ := choose_list (Q := fun i (p : List Value × α) => p.1.length = sz ∧ (∀ j (hj : j < p.1.length), w.cell? ((ad.add (i * sz)).add j) = some p.1[j]) ∧ Reps allFrozen w p.1 (enc p.2).cells ∧ ok p.2) l (fun i hi => by
      obtain ⟨es, q1, q2, q3⟩ := h3 i hi
      obtain ⟨x, hx, hok⟩ := hel es q3
      exact ⟨(es, x), q1, q2, hx, hok⟩)
    by_cases hz : l = 0
    · subst hz
      obtain rfl : ps = [] := List.length_eq_zero_iff.1 hl
      exact ⟨[], .nil h2, by simp⟩
    · have hlt : 0 < ps.length := by omega
      have had : ad = ⟨ad.block, ad.off, none⟩ := by
        obtain ⟨q1, q2, _⟩ := hp 0 hlt
        have := q2 0 (by omega)
        have e0 : (ad.add (0 * sz)).add 0 = ad := by simp [Addr.add]
        rw [e0] at this
        exact addr_of_cell this
      have hcells := cells_at (w := w) (ess := ps.map (·.1)) (b := ad.block) (off := ad.off) (sz := sz) (fun i es hes => by
        rw [List.getElem?_map] at hes
        cases hpi : ps[i]? with
        | none => rw [hpi] at hes; cases hes
        | some p =>
          rw [hpi] at hes
          simp only [Option.map_some, Option.some.injEq] at hes
          subst hes
          obtain ⟨hi, rfl⟩ := List.getElem?_eq_some_iff.1 hpi
          obtain ⟨q1, q2, _⟩ := hp i hi
          refine ⟨q1, fun j u hu => ?_⟩
          obtain ⟨hj, rfl⟩ := List.getElem?_eq_some_iff.1 hu
          have := q2 j hj
          rw [had, add_spot, add_spot] at this
          exact this)
      have hmem : ∀ p ∈ ps, Reps allFrozen w p.1 (enc p.2).cells ∧ ok p.2 := by
        intro p hpm
        obtain ⟨i, hi, rfl⟩ := List.getElem_of_mem hpm
        exact (hp i hi).2.2
      have hr := reps_flat (enc := enc) (fun p hpm => (hmem p hpm).1)
      refine ⟨ps.map (·.2), ?_, fun x hx => ?_⟩
      · have hlen : ((ps.map (·.2)).map enc).length = l := by simp [hl]
        rw [had]
        have := Rep.row (ro := allFrozen) (w := w) (b := ad.block) (off := ad.off) (cap := c) (sz := sz) (xs := (ps.map (·.2)).map enc) (ps.map (·.1)).flatten h0 (by rw [hlen]; exact h1) h2 (by rw [hcells.1, hlen]; simp [hl]) (fun x hx => by obtain ⟨y, _, rfl⟩ := List.mem_map.1 hx; exact hw y) hr.2.1 (fun j u hu => ⟨hcells.2 j u hu, okFrozen _ _⟩) hr.2.2
        rw [hlen] at this
        exact this
      · obtain ⟨p, hpm, rfl⟩ := List.mem_map.1 hx
        exact (hmem p hpm).2
end
end Go.Vm
end
section
namespace Go.Rn
open Go.RowKit
open Go.Vm (enters Contract Rep D Roles allFrozen Evo Grow Reps)
set_option linter.unusedSectionVars false
def okV (v : V) : Bool := match v with
  | .sc x => x.oneCell'
  | .agg cs => cs.all V.one && (match scL cs with
    | some vs => vs.all (·.oneCell')
    | none => false)
  | _ => false
theorem scL_all {π : Pi} : ∀ {cs : List V} {vs : List Value}, scL cs = some vs → vs.all (·.oneCell') = true → concL π cs = some vs
  | [], vs, h, _ => by rw [scL] at h; injection h with h; subst h; rw [concL]
  | .sc v :: l, vs, h, ha => by
    rw [scL] at h
    obtain ⟨vs', h1, rfl⟩ := Option.map_eq_some_iff.1 h
    rw [List.all_cons, Bool.and_eq_true] at ha
    rw [concL, conc, if_pos ha.1, scL_all h1 ha.2]
  | .agg _ :: _, _, h, _ => by simp [scL] at h
  | .tup _ :: _, _, h, _ => by simp [scL] at h
  | .ptr _ _ :: _, _, h, _ => by simp [scL] at h
  | .sl _ _ _ _ _ :: _, _, h, _ => by simp [scL] at h
  | .mp _ :: _, _, h, _ => by simp [scL] at h
  | .it _ :: _, _, h, _ => by simp [scL] at h
  | .fn _ _ :: _, _, h, _ => by simp [scL] at h
  | .opq _ :: _, _, h, _ => by simp [scL] at h
theorem okV_conc {v : V} {u : Value} (h : toV v = some u) (ho : okV v = true) (π : Pi) : conc π v = some u := by
  cases v with
  | sc x => rw [toV] at h; injection h with h; subst h; rw [conc]; exact if_pos ho
  | agg cs =>
    rw [toV] at h
    obtain ⟨vs, h1, rfl⟩ := Option.map_eq_some_iff.1 h
    simp only [okV, h1, Bool.and_eq_true] at ho
    rw [conc, if_pos ho.1, scL_all h1 ho.2]; rfl
  | _ => simp [toV] at h
@[reducible] def lawCx (W : World) (OP : Nat → Value) : Cx := ⟨fun base w0 op => base = W.heap.size ∧ w0 = W ∧ op = OP⟩
theorem mem_law (W : World) (OP : Nat → Value) : @Mem (lawCx W OP) W.heap.size W (noPi OP) (fun _ => none) 0 W := by
  letI := lawCx W OP
  exact ⟨(fun id b h => by cases h), (fun id id' b b' p p' h => by cases h), fun _ _ => rfl, (fun id p h => by cases h), Below.refl _ _, Nat.le_refl _, ⟨rfl, rfl, rfl⟩, (fun x h => by cases h)⟩
theorem noPi_sub {OP : Nat → Value} {π : Pi} (h : π.op = OP) : (noPi OP).sub π := ⟨(fun _ _ h => by cases h), h⟩
theorem frozen_evo {W w : World} (h : Below W.heap.size W w) : Evo allFrozen allFrozen W w := by
  refine ⟨fun b off u hok hc => ⟨?_, hok⟩, fun b i k _ hr => by cases hr⟩
  rcases Nat.lt_or_ge b W.heap.size with hlt | hge
  · rw [World.cell?_of_block (w := W) (h.block b hlt)]; exact hc
  · rw [World.cell?, Array.getElem?_eq_none hge] at hc
    cases hc
theorem orc_pure {P : Program} {W : World} {OP : Nat → Value} {f : FuncId} {ds : List D} {vs : List V} {us : List Value} {v : Value} (hv : v.oneCell' = true) (hc : Contract P f ds [.d (.sc v)]) (hus : concL (noPi OP) vs = some us) (hl : us.length = ds.length) (hrep : ∀ (i : Nat) (u : Value) (d : D), us[i]? = some u → ds[i]? = some d → Rep allFrozen W u d) (h : Hp) (n : Nat) : @RCall (lawCx W OP) P f vs h n (.sc v) h n := by
  letI := lawCx W OP
  intro base w0 π w us' hm hus'
  obtain ⟨c1, c2, c3⟩ := hm.ctx
  subst c1 c2
  rw [concL_sub (noPi_sub c3) hus] at hus'
  injection hus' with hus'
  subst hus'
  have hev := frozen_evo hm.below
  refine (hc allFrozen w us.toArray 0 (fun _ _ => rfl) (fun b b' id k k' h => by cases h) (by simpa using hl) (fun i u d h1 h2 => (hrep i u d (by simpa using h1) h2).evolve hev)).mono ?_
  rintro e w' ⟨x, ro', rfl, hg, hs⟩
  obtain ⟨rfl, _⟩ := Go.Vm.rep_sc (show Rep ro' w' x (.sc v) from hs)
  exact ⟨π, _, rfl, π.le_refl, hm.keep hg.below, by rw [conc, if_pos hv]⟩
theorem law_run {P : Program} {W : World} {OP : Nat → Value} {f : FuncId} {args : List V} {us : List Value} {h' : Hp} {n' : Nat} (hr : @RCall (lawCx W OP) P f args (fun _ => none) 0 (.sc (.bool true)) h' n') (hargs : concL (noPi OP) args = some us) : Calls P f us.toArray W fun e w' => e = .returned (.bool true) ∧ Below W.heap.size W w' := by
  letI := lawCx W OP
  refine (hr W.heap.size W (noPi OP) W us (mem_law W OP) hargs).mono ?_
  rintro e w' ⟨π', u, rfl, hle, hm, hv⟩
  rw [conc] at hv
  have hv : some (Value.bool true) = some u := hv
  injection hv with hv
  subst hv
  exact ⟨rfl, hm.below⟩
def isTrue (v : V) : Prop := match v with
  | .sc (.bool true) => True
  | _ => False
theorem isTrue_spec {v : V} (h : isTrue v) : v = .sc (.bool true) := by
  unfold isTrue at h
  split at h
  · rfl
  · exact h.elim
noncomputable def isV (x v : V) : Prop := match eqV x v with
  | true => True
  | false => False
theorem isV_spec {x v : V} (h : isV x v) : v = x := by
  unfold isV at h
  split at h
  · rename_i h1; exact (eqV_spec h1).symm
  · exact h.elim
theorem orcOk_nil [Cx] {P : Program} : OrcOk P [] := fun e he => by cases he
theorem orcOk_cons [Cx] {P : Program} {f : FuncId} {vs : List V} {v : V} {l : Orc} (he : enters P f = true) (h : ∀ hp n, RCall P f vs hp n v hp n) (hl : OrcOk P l) : OrcOk P ((f, vs, v) :: l) := by
  intro e hm
  rcases List.mem_cons.1 hm with rfl | hm
  · exact ⟨he, h⟩
  · exact hl e hm
structure Hold (p : Prop) : Prop where
  out : p
theorem run_hold [Cx] {P : Program} {F : Tr Func} (hF : Fok P F) {l : Orc} (hl : OrcOk P l) {fuel depth : Nat} {f : FuncId} {vs : List V} {m : Tr Blk} {n : Nat} {K : V → Tr Blk → Nat → Prop} (h : Hold (run P F l fuel depth f vs m n K)) : ∃ v m' n', enters P f = true ∧ RCall P f vs m.get n v m'.get n' ∧ K v m' n' := run_spec hF hl (depth := depth) _ _ _ _ _ h.out
theorem closed_run {P : Program} {F : Tr Func} (hF : Fok P F) {l : Orc} (hl : ∀ [Cx], OrcOk P l) {f : FuncId} {x : V} {u : Value} (hr : Hold (run P F l 1000000 1000 f [] .leaf 0 (fun v _ _ => isV x v))) (hu : toV x = some u) (ho : okV x = true) : enters P f = true ∧ ∀ [Cx] h n, RCall P f [] h n x h n := by
  obtain ⟨v, m', n', q1, q2, q3⟩ := @run_hold trivCx P F hF l (@hl trivCx) 1000000 1000 _ _ _ _ _ hr
  rw [isV_spec q3] at q2
  exact ⟨q1, fun h n => known q2 hu (okV_conc hu ho) h n⟩
end Go.Rn
end
section
namespace Go.Rn
open Go.RowKit
theorem fo2 : FnOk Go.Proofs.Tryz.prog 2 Go.Proofs.Tryz.f2 := ⟨Go.Proofs.Tryz.func2, by kernel_rfl⟩
theorem fo3 : FnOk Go.Proofs.Tryz.prog 3 Go.Proofs.Tryz.f3 := ⟨Go.Proofs.Tryz.func3, by kernel_rfl⟩
theorem fo4 : FnOk Go.Proofs.Tryz.prog 4 Go.Proofs.Tryz.f4 := ⟨Go.Proofs.Tryz.func4, by kernel_rfl⟩
theorem fo5 : FnOk Go.Proofs.Tryz.prog 5 Go.Proofs.Tryz.f5 := ⟨Go.Proofs.Tryz.func5, by kernel_rfl⟩
theorem fo6 : FnOk Go.Proofs.Tryz.prog 6 Go.Proofs.Tryz.f6 := ⟨Go.Proofs.Tryz.func6, by kernel_rfl⟩
theorem fo7 : FnOk Go.Proofs.Tryz.prog 7 Go.Proofs.Tryz.f7 := ⟨Go.Proofs.Tryz.func7, by kernel_rfl⟩
theorem fo8 : FnOk Go.Proofs.Tryz.prog 8 Go.Proofs.Tryz.f8 := ⟨Go.Proofs.Tryz.func8, by kernel_rfl⟩
theorem fo9 : FnOk Go.Proofs.Tryz.prog 9 Go.Proofs.Tryz.f9 := ⟨Go.Proofs.Tryz.func9, by kernel_rfl⟩
theorem fo10 : FnOk Go.Proofs.Tryz.prog 10 Go.Proofs.Tryz.f10 := ⟨Go.Proofs.Tryz.func10, by kernel_rfl⟩
theorem fo11 : FnOk Go.Proofs.Tryz.prog 11 Go.Proofs.Tryz.f11 := ⟨Go.Proofs.Tryz.func11, by kernel_rfl⟩
theorem fo12 : FnOk Go.Proofs.Tryz.prog 12 Go.Proofs.Tryz.f12 := ⟨Go.Proofs.Tryz.func12, by kernel_rfl⟩
theorem fo13 : FnOk Go.Proofs.Tryz.prog 13 Go.Proofs.Tryz.f13 := ⟨Go.Proofs.Tryz.func13, by kernel_rfl⟩
theorem fo14 : FnOk Go.Proofs.Tryz.prog 14 Go.Proofs.Tryz.f14 := ⟨Go.Proofs.Tryz.func14, by kernel_rfl⟩
theorem fo15 : FnOk Go.Proofs.Tryz.prog 15 Go.Proofs.Tryz.f15 := ⟨Go.Proofs.Tryz.func15, by kernel_rfl⟩
theorem fo16 : FnOk Go.Proofs.Tryz.prog 16 Go.Proofs.Tryz.f16 := ⟨Go.Proofs.Tryz.func16, by kernel_rfl⟩
theorem fo17 : FnOk Go.Proofs.Tryz.prog 17 Go.Proofs.Tryz.f17 := ⟨Go.Proofs.Tryz.func17, by kernel_rfl⟩
theorem fo18 : FnOk Go.Proofs.Tryz.prog 18 Go.Proofs.Tryz.f18 := ⟨Go.Proofs.Tryz.func18, by kernel_rfl⟩
theorem fo19 : FnOk Go.Proofs.Tryz.prog 19 Go.Proofs.Tryz.f19 := ⟨Go.Proofs.Tryz.func19, by kernel_rfl⟩
theorem fo20 : FnOk Go.Proofs.Tryz.prog 20 Go.Proofs.Tryz.f20 := ⟨Go.Proofs.Tryz.func20, by kernel_rfl⟩
theorem fo21 : FnOk Go.Proofs.Tryz.prog 21 Go.Proofs.Tryz.f21 := ⟨Go.Proofs.Tryz.func21, by kernel_rfl⟩
theorem fo22 : FnOk Go.Proofs.Tryz.prog 22 Go.Proofs.Tryz.f22 := ⟨Go.Proofs.Tryz.func22, by kernel_rfl⟩
theorem fo23 : FnOk Go.Proofs.Tryz.prog 23 Go.Proofs.Tryz.f23 := ⟨Go.Proofs.Tryz.func23, by kernel_rfl⟩
theorem fo24 : FnOk Go.Proofs.Tryz.prog 24 Go.Proofs.Tryz.f24 := ⟨Go.Proofs.Tryz.func24, by kernel_rfl⟩
theorem fo25 : FnOk Go.Proofs.Tryz.prog 25 Go.Proofs.Tryz.f25 := ⟨Go.Proofs.Tryz.func25, by kernel_rfl⟩
theorem fo26 : FnOk Go.Proofs.Tryz.prog 26 Go.Proofs.Tryz.f26 := ⟨Go.Proofs.Tryz.func26, by kernel_rfl⟩
theorem fo27 : FnOk Go.Proofs.Tryz.prog 27 Go.Proofs.Tryz.f27 := ⟨Go.Proofs.Tryz.func27, by kernel_rfl⟩
theorem fo28 : FnOk Go.Proofs.Tryz.prog 28 Go.Proofs.Tryz.f28 := ⟨Go.Proofs.Tryz.func28, by kernel_rfl⟩
theorem fo29 : FnOk Go.Proofs.Tryz.prog 29 Go.Proofs.Tryz.f29 := ⟨Go.Proofs.Tryz.func29, by kernel_rfl⟩
theorem fo30 : FnOk Go.Proofs.Tryz.prog 30 Go.Proofs.Tryz.f30 := ⟨Go.Proofs.Tryz.func30, by kernel_rfl⟩
theorem fo31 : FnOk Go.Proofs.Tryz.prog 31 Go.Proofs.Tryz.f31 := ⟨Go.Proofs.Tryz.func31, by kernel_rfl⟩
theorem fo32 : FnOk Go.Proofs.Tryz.prog 32 Go.Proofs.Tryz.f32 := ⟨Go.Proofs.Tryz.func32, by kernel_rfl⟩
theorem fo33 : FnOk Go.Proofs.Tryz.prog 33 Go.Proofs.Tryz.f33 := ⟨Go.Proofs.Tryz.func33, by kernel_rfl⟩
theorem fo34 : FnOk Go.Proofs.Tryz.prog 34 Go.Proofs.Tryz.f34 := ⟨Go.Proofs.Tryz.func34, by kernel_rfl⟩
theorem fo35 : FnOk Go.Proofs.Tryz.prog 35 Go.Proofs.Tryz.f35 := ⟨Go.Proofs.Tryz.func35, by kernel_rfl⟩
theorem fo36 : FnOk Go.Proofs.Tryz.prog 36 Go.Proofs.Tryz.f36 := ⟨Go.Proofs.Tryz.func36, by kernel_rfl⟩
theorem fo37 : FnOk Go.Proofs.Tryz.prog 37 Go.Proofs.Tryz.f37 := ⟨Go.Proofs.Tryz.func37, by kernel_rfl⟩
theorem fo38 : FnOk Go.Proofs.Tryz.prog 38 Go.Proofs.Tryz.f38 := ⟨Go.Proofs.Tryz.func38, by kernel_rfl⟩
theorem fo39 : FnOk Go.Proofs.Tryz.prog 39 Go.Proofs.Tryz.f39 := ⟨Go.Proofs.Tryz.func39, by kernel_rfl⟩
theorem fo40 : FnOk Go.Proofs.Tryz.prog 40 Go.Proofs.Tryz.f40 := ⟨Go.Proofs.Tryz.func40, by kernel_rfl⟩
theorem fo41 : FnOk Go.Proofs.Tryz.prog 41 Go.Proofs.Tryz.f41 := ⟨Go.Proofs.Tryz.func41, by kernel_rfl⟩
theorem fo42 : FnOk Go.Proofs.Tryz.prog 42 Go.Proofs.Tryz.f42 := ⟨Go.Proofs.Tryz.func42, by kernel_rfl⟩
theorem fo43 : FnOk Go.Proofs.Tryz.prog 43 Go.Proofs.Tryz.f43 := ⟨Go.Proofs.Tryz.func43, by kernel_rfl⟩
theorem fo44 : FnOk Go.Proofs.Tryz.prog 44 Go.Proofs.Tryz.f44 := ⟨Go.Proofs.Tryz.func44, by kernel_rfl⟩
theorem fo45 : FnOk Go.Proofs.Tryz.prog 45 Go.Proofs.Tryz.f45 := ⟨Go.Proofs.Tryz.func45, by kernel_rfl⟩
theorem fo46 : FnOk Go.Proofs.Tryz.prog 46 Go.Proofs.Tryz.f46 := ⟨Go.Proofs.Tryz.func46, by kernel_rfl⟩
theorem fo47 : FnOk Go.Proofs.Tryz.prog 47 Go.Proofs.Tryz.f47 := ⟨Go.Proofs.Tryz.func47, by kernel_rfl⟩
theorem fo48 : FnOk Go.Proofs.Tryz.prog 48 Go.Proofs.Tryz.f48 := ⟨Go.Proofs.Tryz.func48, by kernel_rfl⟩
theorem fo49 : FnOk Go.Proofs.Tryz.prog 49 Go.Proofs.Tryz.f49 := ⟨Go.Proofs.Tryz.func49, by kernel_rfl⟩
theorem fo50 : FnOk Go.Proofs.Tryz.prog 50 Go.Proofs.Tryz.f50 := ⟨Go.Proofs.Tryz.func50, by kernel_rfl⟩
theorem fo51 : FnOk Go.Proofs.Tryz.prog 51 Go.Proofs.Tryz.f51 := ⟨Go.Proofs.Tryz.func51, by kernel_rfl⟩
theorem fo52 : FnOk Go.Proofs.Tryz.prog 52 Go.Proofs.Tryz.f52 := ⟨Go.Proofs.Tryz.func52, by kernel_rfl⟩
theorem fo53 : FnOk Go.Proofs.Tryz.prog 53 Go.Proofs.Tryz.f53 := ⟨Go.Proofs.Tryz.func53, by kernel_rfl⟩
theorem fo54 : FnOk Go.Proofs.Tryz.prog 54 Go.Proofs.Tryz.f54 := ⟨Go.Proofs.Tryz.func54, by kernel_rfl⟩
theorem fo55 : FnOk Go.Proofs.Tryz.prog 55 Go.Proofs.Tryz.f55 := ⟨Go.Proofs.Tryz.func55, by kernel_rfl⟩
theorem fo56 : FnOk Go.Proofs.Tryz.prog 56 Go.Proofs.Tryz.f56 := ⟨Go.Proofs.Tryz.func56, by kernel_rfl⟩
theorem fo57 : FnOk Go.Proofs.Tryz.prog 57 Go.Proofs.Tryz.f57 := ⟨Go.Proofs.Tryz.func57, by kernel_rfl⟩
theorem fo58 : FnOk Go.Proofs.Tryz.prog 58 Go.Proofs.Tryz.f58 := ⟨Go.Proofs.Tryz.func58, by kernel_rfl⟩
theorem fo59 : FnOk Go.Proofs.Tryz.prog 59 Go.Proofs.Tryz.f59 := ⟨Go.Proofs.Tryz.func59, by kernel_rfl⟩
theorem fo60 : FnOk Go.Proofs.Tryz.prog 60 Go.Proofs.Tryz.f60 := ⟨Go.Proofs.Tryz.func60, by kernel_rfl⟩
theorem fo61 : FnOk Go.Proofs.Tryz.prog 61 Go.Proofs.Tryz.f61 := ⟨Go.Proofs.Tryz.func61, by kernel_rfl⟩
theorem fo62 : FnOk Go.Proofs.Tryz.prog 62 Go.Proofs.Tryz.f62 := ⟨Go.Proofs.Tryz.func62, by kernel_rfl⟩
theorem fo63 : FnOk Go.Proofs.Tryz.prog 63 Go.Proofs.Tryz.f63 := ⟨Go.Proofs.Tryz.func63, by kernel_rfl⟩
theorem fo64 : FnOk Go.Proofs.Tryz.prog 64 Go.Proofs.Tryz.f64 := ⟨Go.Proofs.Tryz.func64, by kernel_rfl⟩
theorem fo65 : FnOk Go.Proofs.Tryz.prog 65 Go.Proofs.Tryz.f65 := ⟨Go.Proofs.Tryz.func65, by kernel_rfl⟩
theorem fo66 : FnOk Go.Proofs.Tryz.prog 66 Go.Proofs.Tryz.f66 := ⟨Go.Proofs.Tryz.func66, by kernel_rfl⟩
theorem fo67 : FnOk Go.Proofs.Tryz.prog 67 Go.Proofs.Tryz.f67 := ⟨Go.Proofs.Tryz.func67, by kernel_rfl⟩
theorem fo68 : FnOk Go.Proofs.Tryz.prog 68 Go.Proofs.Tryz.f68 := ⟨Go.Proofs.Tryz.func68, by kernel_rfl⟩
theorem fo69 : FnOk Go.Proofs.Tryz.prog 69 Go.Proofs.Tryz.f69 := ⟨Go.Proofs.Tryz.func69, by kernel_rfl⟩
theorem fo70 : FnOk Go.Proofs.Tryz.prog 70 Go.Proofs.Tryz.f70 := ⟨Go.Proofs.Tryz.func70, by kernel_rfl⟩
theorem fo71 : FnOk Go.Proofs.Tryz.prog 71 Go.Proofs.Tryz.f71 := ⟨Go.Proofs.Tryz.func71, by kernel_rfl⟩
theorem fo72 : FnOk Go.Proofs.Tryz.prog 72 Go.Proofs.Tryz.f72 := ⟨Go.Proofs.Tryz.func72, by kernel_rfl⟩
theorem fo73 : FnOk Go.Proofs.Tryz.prog 73 Go.Proofs.Tryz.f73 := ⟨Go.Proofs.Tryz.func73, by kernel_rfl⟩
theorem fo74 : FnOk Go.Proofs.Tryz.prog 74 Go.Proofs.Tryz.f74 := ⟨Go.Proofs.Tryz.func74, by kernel_rfl⟩
theorem fo75 : FnOk Go.Proofs.Tryz.prog 75 Go.Proofs.Tryz.f75 := ⟨Go.Proofs.Tryz.func75, by kernel_rfl⟩
theorem fo76 : FnOk Go.Proofs.Tryz.prog 76 Go.Proofs.Tryz.f76 := ⟨Go.Proofs.Tryz.func76, by kernel_rfl⟩
theorem fo77 : FnOk Go.Proofs.Tryz.prog 77 Go.Proofs.Tryz.f77 := ⟨Go.Proofs.Tryz.func77, by kernel_rfl⟩
theorem fo78 : FnOk Go.Proofs.Tryz.prog 78 Go.Proofs.Tryz.f78 := ⟨Go.Proofs.Tryz.func78, by kernel_rfl⟩
theorem fo79 : FnOk Go.Proofs.Tryz.prog 79 Go.Proofs.Tryz.f79 := ⟨Go.Proofs.Tryz.func79, by kernel_rfl⟩
theorem fo80 : FnOk Go.Proofs.Tryz.prog 80 Go.Proofs.Tryz.f80 := ⟨Go.Proofs.Tryz.func80, by kernel_rfl⟩
theorem fo81 : FnOk Go.Proofs.Tryz.prog 81 Go.Proofs.Tryz.f81 := ⟨Go.Proofs.Tryz.func81, by kernel_rfl⟩
theorem fo82 : FnOk Go.Proofs.Tryz.prog 82 Go.Proofs.Tryz.f82 := ⟨Go.Proofs.Tryz.func82, by kernel_rfl⟩
theorem fo83 : FnOk Go.Proofs.Tryz.prog 83 Go.Proofs.Tryz.f83 := ⟨Go.Proofs.Tryz.func83, by kernel_rfl⟩
theorem fo84 : FnOk Go.Proofs.Tryz.prog 84 Go.Proofs.Tryz.f84 := ⟨Go.Proofs.Tryz.func84, by kernel_rfl⟩
theorem fo85 : FnOk Go.Proofs.Tryz.prog 85 Go.Proofs.Tryz.f85 := ⟨Go.Proofs.Tryz.func85, by kernel_rfl⟩
theorem fo86 : FnOk Go.Proofs.Tryz.prog 86 Go.Proofs.Tryz.f86 := ⟨Go.Proofs.Tryz.func86, by kernel_rfl⟩
theorem fo87 : FnOk Go.Proofs.Tryz.prog 87 Go.Proofs.Tryz.f87 := ⟨Go.Proofs.Tryz.func87, by kernel_rfl⟩
theorem fo88 : FnOk Go.Proofs.Tryz.prog 88 Go.Proofs.Tryz.f88 := ⟨Go.Proofs.Tryz.func88, by kernel_rfl⟩
theorem fo89 : FnOk Go.Proofs.Tryz.prog 89 Go.Proofs.Tryz.f89 := ⟨Go.Proofs.Tryz.func89, by kernel_rfl⟩
theorem fo90 : FnOk Go.Proofs.Tryz.prog 90 Go.Proofs.Tryz.f90 := ⟨Go.Proofs.Tryz.func90, by kernel_rfl⟩
theorem fo91 : FnOk Go.Proofs.Tryz.prog 91 Go.Proofs.Tryz.f91 := ⟨Go.Proofs.Tryz.func91, by kernel_rfl⟩
theorem fo92 : FnOk Go.Proofs.Tryz.prog 92 Go.Proofs.Tryz.f92 := ⟨Go.Proofs.Tryz.func92, by kernel_rfl⟩
theorem fo93 : FnOk Go.Proofs.Tryz.prog 93 Go.Proofs.Tryz.f93 := ⟨Go.Proofs.Tryz.func93, by kernel_rfl⟩
theorem fo94 : FnOk Go.Proofs.Tryz.prog 94 Go.Proofs.Tryz.f94 := ⟨Go.Proofs.Tryz.func94, by kernel_rfl⟩
theorem fo95 : FnOk Go.Proofs.Tryz.prog 95 Go.Proofs.Tryz.f95 := ⟨Go.Proofs.Tryz.func95, by kernel_rfl⟩
theorem fo96 : FnOk Go.Proofs.Tryz.prog 96 Go.Proofs.Tryz.f96 := ⟨Go.Proofs.Tryz.func96, by kernel_rfl⟩
theorem fo97 : FnOk Go.Proofs.Tryz.prog 97 Go.Proofs.Tryz.f97 := ⟨Go.Proofs.Tryz.func97, by kernel_rfl⟩
theorem fo98 : FnOk Go.Proofs.Tryz.prog 98 Go.Proofs.Tryz.f98 := ⟨Go.Proofs.Tryz.func98, by kernel_rfl⟩
theorem fo99 : FnOk Go.Proofs.Tryz.prog 99 Go.Proofs.Tryz.f99 := ⟨Go.Proofs.Tryz.func99, by kernel_rfl⟩
theorem fo100 : FnOk Go.Proofs.Tryz.prog 100 Go.Proofs.Tryz.f100 := ⟨Go.Proofs.Tryz.func100, by kernel_rfl⟩
theorem fo101 : FnOk Go.Proofs.Tryz.prog 101 Go.Proofs.Tryz.f101 := ⟨Go.Proofs.Tryz.func101, by kernel_rfl⟩
theorem fo102 : FnOk Go.Proofs.Tryz.prog 102 Go.Proofs.Tryz.f102 := ⟨Go.Proofs.Tryz.func102, by kernel_rfl⟩
theorem fo103 : FnOk Go.Proofs.Tryz.prog 103 Go.Proofs.Tryz.f103 := ⟨Go.Proofs.Tryz.func103, by kernel_rfl⟩
theorem fo104 : FnOk Go.Proofs.Tryz.prog 104 Go.Proofs.Tryz.f104 := ⟨Go.Proofs.Tryz.func104, by kernel_rfl⟩
theorem fo105 : FnOk Go.Proofs.Tryz.prog 105 Go.Proofs.Tryz.f105 := ⟨Go.Proofs.Tryz.func105, by kernel_rfl⟩
theorem fo106 : FnOk Go.Proofs.Tryz.prog 106 Go.Proofs.Tryz.f106 := ⟨Go.Proofs.Tryz.func106, by kernel_rfl⟩
theorem fo107 : FnOk Go.Proofs.Tryz.prog 107 Go.Proofs.Tryz.f107 := ⟨Go.Proofs.Tryz.func107, by kernel_rfl⟩
theorem fo108 : FnOk Go.Proofs.Tryz.prog 108 Go.Proofs.Tryz.f108 := ⟨Go.Proofs.Tryz.func108, by kernel_rfl⟩
theorem fo109 : FnOk Go.Proofs.Tryz.prog 109 Go.Proofs.Tryz.f109 := ⟨Go.Proofs.Tryz.func109, by kernel_rfl⟩
theorem fo110 : FnOk Go.Proofs.Tryz.prog 110 Go.Proofs.Tryz.f110 := ⟨Go.Proofs.Tryz.func110, by kernel_rfl⟩
theorem fo111 : FnOk Go.Proofs.Tryz.prog 111 Go.Proofs.Tryz.f111 := ⟨Go.Proofs.Tryz.func111, by kernel_rfl⟩
theorem fo112 : FnOk Go.Proofs.Tryz.prog 112 Go.Proofs.Tryz.f112 := ⟨Go.Proofs.Tryz.func112, by kernel_rfl⟩
theorem fo113 : FnOk Go.Proofs.Tryz.prog 113 Go.Proofs.Tryz.f113 := ⟨Go.Proofs.Tryz.func113, by kernel_rfl⟩
theorem fo114 : FnOk Go.Proofs.Tryz.prog 114 Go.Proofs.Tryz.f114 := ⟨Go.Proofs.Tryz.func114, by kernel_rfl⟩
theorem fo115 : FnOk Go.Proofs.Tryz.prog 115 Go.Proofs.Tryz.f115 := ⟨Go.Proofs.Tryz.func115, by kernel_rfl⟩
theorem fo116 : FnOk Go.Proofs.Tryz.prog 116 Go.Proofs.Tryz.f116 := ⟨Go.Proofs.Tryz.func116, by kernel_rfl⟩
theorem fo117 : FnOk Go.Proofs.Tryz.prog 117 Go.Proofs.Tryz.f117 := ⟨Go.Proofs.Tryz.func117, by kernel_rfl⟩
theorem fo118 : FnOk Go.Proofs.Tryz.prog 118 Go.Proofs.Tryz.f118 := ⟨Go.Proofs.Tryz.func118, by kernel_rfl⟩
theorem fo119 : FnOk Go.Proofs.Tryz.prog 119 Go.Proofs.Tryz.f119 := ⟨Go.Proofs.Tryz.func119, by kernel_rfl⟩
theorem fo120 : FnOk Go.Proofs.Tryz.prog 120 Go.Proofs.Tryz.f120 := ⟨Go.Proofs.Tryz.func120, by kernel_rfl⟩
theorem fo121 : FnOk Go.Proofs.Tryz.prog 121 Go.Proofs.Tryz.f121 := ⟨Go.Proofs.Tryz.func121, by kernel_rfl⟩
theorem fo122 : FnOk Go.Proofs.Tryz.prog 122 Go.Proofs.Tryz.f122 := ⟨Go.Proofs.Tryz.func122, by kernel_rfl⟩
theorem fo123 : FnOk Go.Proofs.Tryz.prog 123 Go.Proofs.Tryz.f123 := ⟨Go.Proofs.Tryz.func123, by kernel_rfl⟩
theorem fo124 : FnOk Go.Proofs.Tryz.prog 124 Go.Proofs.Tryz.f124 := ⟨Go.Proofs.Tryz.func124, by kernel_rfl⟩
theorem fo125 : FnOk Go.Proofs.Tryz.prog 125 Go.Proofs.Tryz.f125 := ⟨Go.Proofs.Tryz.func125, by kernel_rfl⟩
theorem fo126 : FnOk Go.Proofs.Tryz.prog 126 Go.Proofs.Tryz.f126 := ⟨Go.Proofs.Tryz.func126, by kernel_rfl⟩
theorem fo127 : FnOk Go.Proofs.Tryz.prog 127 Go.Proofs.Tryz.f127 := ⟨Go.Proofs.Tryz.func127, by kernel_rfl⟩
theorem fo128 : FnOk Go.Proofs.Tryz.prog 128 Go.Proofs.Tryz.f128 := ⟨Go.Proofs.Tryz.func128, by kernel_rfl⟩
theorem fo129 : FnOk Go.Proofs.Tryz.prog 129 Go.Proofs.Tryz.f129 := ⟨Go.Proofs.Tryz.func129, by kernel_rfl⟩
theorem fo130 : FnOk Go.Proofs.Tryz.prog 130 Go.Proofs.Tryz.f130 := ⟨Go.Proofs.Tryz.func130, by kernel_rfl⟩
theorem fo131 : FnOk Go.Proofs.Tryz.prog 131 Go.Proofs.Tryz.f131 := ⟨Go.Proofs.Tryz.func131, by kernel_rfl⟩
theorem fo132 : FnOk Go.Proofs.Tryz.prog 132 Go.Proofs.Tryz.f132 := ⟨Go.Proofs.Tryz.func132, by kernel_rfl⟩
theorem fo133 : FnOk Go.Proofs.Tryz.prog 133 Go.Proofs.Tryz.f133 := ⟨Go.Proofs.Tryz.func133, by kernel_rfl⟩
theorem fo134 : FnOk Go.Proofs.Tryz.prog 134 Go.Proofs.Tryz.f134 := ⟨Go.Proofs.Tryz.func134, by kernel_rfl⟩
theorem fo135 : FnOk Go.Proofs.Tryz.prog 135 Go.Proofs.Tryz.f135 := ⟨Go.Proofs.Tryz.func135, by kernel_rfl⟩
theorem fo136 : FnOk Go.Proofs.Tryz.prog 136 Go.Proofs.Tryz.f136 := ⟨Go.Proofs.Tryz.func136, by kernel_rfl⟩
theorem fo137 : FnOk Go.Proofs.Tryz.prog 137 Go.Proofs.Tryz.f137 := ⟨Go.Proofs.Tryz.func137, by kernel_rfl⟩
theorem fo138 : FnOk Go.Proofs.Tryz.prog 138 Go.Proofs.Tryz.f138 := ⟨Go.Proofs.Tryz.func138, by kernel_rfl⟩
theorem fo139 : FnOk Go.Proofs.Tryz.prog 139 Go.Proofs.Tryz.f139 := ⟨Go.Proofs.Tryz.func139, by kernel_rfl⟩
theorem fo140 : FnOk Go.Proofs.Tryz.prog 140 Go.Proofs.Tryz.f140 := ⟨Go.Proofs.Tryz.func140, by kernel_rfl⟩
theorem fo141 : FnOk Go.Proofs.Tryz.prog 141 Go.Proofs.Tryz.f141 := ⟨Go.Proofs.Tryz.func141, by kernel_rfl⟩
theorem fo142 : FnOk Go.Proofs.Tryz.prog 142 Go.Proofs.Tryz.f142 := ⟨Go.Proofs.Tryz.func142, by kernel_rfl⟩
theorem fo143 : FnOk Go.Proofs.Tryz.prog 143 Go.Proofs.Tryz.f143 := ⟨Go.Proofs.Tryz.func143, by kernel_rfl⟩
theorem fo144 : FnOk Go.Proofs.Tryz.prog 144 Go.Proofs.Tryz.f144 := ⟨Go.Proofs.Tryz.func144, by kernel_rfl⟩
theorem fo145 : FnOk Go.Proofs.Tryz.prog 145 Go.Proofs.Tryz.f145 := ⟨Go.Proofs.Tryz.func145, by kernel_rfl⟩
theorem fo146 : FnOk Go.Proofs.Tryz.prog 146 Go.Proofs.Tryz.f146 := ⟨Go.Proofs.Tryz.func146, by kernel_rfl⟩
theorem fo147 : FnOk Go.Proofs.Tryz.prog 147 Go.Proofs.Tryz.f147 := ⟨Go.Proofs.Tryz.func147, by kernel_rfl⟩
theorem fo148 : FnOk Go.Proofs.Tryz.prog 148 Go.Proofs.Tryz.f148 := ⟨Go.Proofs.Tryz.func148, by kernel_rfl⟩
theorem fo149 : FnOk Go.Proofs.Tryz.prog 149 Go.Proofs.Tryz.f149 := ⟨Go.Proofs.Tryz.func149, by kernel_rfl⟩
theorem fo150 : FnOk Go.Proofs.Tryz.prog 150 Go.Proofs.Tryz.f150 := ⟨Go.Proofs.Tryz.func150, by kernel_rfl⟩
theorem fo151 : FnOk Go.Proofs.Tryz.prog 151 Go.Proofs.Tryz.f151 := ⟨Go.Proofs.Tryz.func151, by kernel_rfl⟩
theorem fo152 : FnOk Go.Proofs.Tryz.prog 152 Go.Proofs.Tryz.f152 := ⟨Go.Proofs.Tryz.func152, by kernel_rfl⟩
theorem fo153 : FnOk Go.Proofs.Tryz.prog 153 Go.Proofs.Tryz.f153 := ⟨Go.Proofs.Tryz.func153, by kernel_rfl⟩
theorem fo154 : FnOk Go.Proofs.Tryz.prog 154 Go.Proofs.Tryz.f154 := ⟨Go.Proofs.Tryz.func154, by kernel_rfl⟩
theorem fo155 : FnOk Go.Proofs.Tryz.prog 155 Go.Proofs.Tryz.f155 := ⟨Go.Proofs.Tryz.func155, by kernel_rfl⟩
theorem fo156 : FnOk Go.Proofs.Tryz.prog 156 Go.Proofs.Tryz.f156 := ⟨Go.Proofs.Tryz.func156, by kernel_rfl⟩
theorem fo157 : FnOk Go.Proofs.Tryz.prog 157 Go.Proofs.Tryz.f157 := ⟨Go.Proofs.Tryz.func157, by kernel_rfl⟩
theorem fo158 : FnOk Go.Proofs.Tryz.prog 158 Go.Proofs.Tryz.f158 := ⟨Go.Proofs.Tryz.func158, by kernel_rfl⟩
theorem fo159 : FnOk Go.Proofs.Tryz.prog 159 Go.Proofs.Tryz.f159 := ⟨Go.Proofs.Tryz.func159, by kernel_rfl⟩
theorem fo160 : FnOk Go.Proofs.Tryz.prog 160 Go.Proofs.Tryz.f160 := ⟨Go.Proofs.Tryz.func160, by kernel_rfl⟩
theorem fo161 : FnOk Go.Proofs.Tryz.prog 161 Go.Proofs.Tryz.f161 := ⟨Go.Proofs.Tryz.func161, by kernel_rfl⟩
theorem fo162 : FnOk Go.Proofs.Tryz.prog 162 Go.Proofs.Tryz.f162 := ⟨Go.Proofs.Tryz.func162, by kernel_rfl⟩
theorem fo163 : FnOk Go.Proofs.Tryz.prog 163 Go.Proofs.Tryz.f163 := ⟨Go.Proofs.Tryz.func163, by kernel_rfl⟩
theorem fo164 : FnOk Go.Proofs.Tryz.prog 164 Go.Proofs.Tryz.f164 := ⟨Go.Proofs.Tryz.func164, by kernel_rfl⟩
theorem fo165 : FnOk Go.Proofs.Tryz.prog 165 Go.Proofs.Tryz.f165 := ⟨Go.Proofs.Tryz.func165, by kernel_rfl⟩
theorem fo166 : FnOk Go.Proofs.Tryz.prog 166 Go.Proofs.Tryz.f166 := ⟨Go.Proofs.Tryz.func166, by kernel_rfl⟩
theorem fo167 : FnOk Go.Proofs.Tryz.prog 167 Go.Proofs.Tryz.f167 := ⟨Go.Proofs.Tryz.func167, by kernel_rfl⟩
theorem fo168 : FnOk Go.Proofs.Tryz.prog 168 Go.Proofs.Tryz.f168 := ⟨Go.Proofs.Tryz.func168, by kernel_rfl⟩
theorem fo169 : FnOk Go.Proofs.Tryz.prog 169 Go.Proofs.Tryz.f169 := ⟨Go.Proofs.Tryz.func169, by kernel_rfl⟩
theorem fo170 : FnOk Go.Proofs.Tryz.prog 170 Go.Proofs.Tryz.f170 := ⟨Go.Proofs.Tryz.func170, by kernel_rfl⟩
theorem fo171 : FnOk Go.Proofs.Tryz.prog 171 Go.Proofs.Tryz.f171 := ⟨Go.Proofs.Tryz.func171, by kernel_rfl⟩
theorem fo172 : FnOk Go.Proofs.Tryz.prog 172 Go.Proofs.Tryz.f172 := ⟨Go.Proofs.Tryz.func172, by kernel_rfl⟩
theorem fo173 : FnOk Go.Proofs.Tryz.prog 173 Go.Proofs.Tryz.f173 := ⟨Go.Proofs.Tryz.func173, by kernel_rfl⟩
theorem fo174 : FnOk Go.Proofs.Tryz.prog 174 Go.Proofs.Tryz.f174 := ⟨Go.Proofs.Tryz.func174, by kernel_rfl⟩
theorem fo175 : FnOk Go.Proofs.Tryz.prog 175 Go.Proofs.Tryz.f175 := ⟨Go.Proofs.Tryz.func175, by kernel_rfl⟩
theorem fo176 : FnOk Go.Proofs.Tryz.prog 176 Go.Proofs.Tryz.f176 := ⟨Go.Proofs.Tryz.func176, by kernel_rfl⟩
theorem fo177 : FnOk Go.Proofs.Tryz.prog 177 Go.Proofs.Tryz.f177 := ⟨Go.Proofs.Tryz.func177, by kernel_rfl⟩
theorem fo178 : FnOk Go.Proofs.Tryz.prog 178 Go.Proofs.Tryz.f178 := ⟨Go.Proofs.Tryz.func178, by kernel_rfl⟩
theorem fo179 : FnOk Go.Proofs.Tryz.prog 179 Go.Proofs.Tryz.f179 := ⟨Go.Proofs.Tryz.func179, by kernel_rfl⟩
theorem fo180 : FnOk Go.Proofs.Tryz.prog 180 Go.Proofs.Tryz.f180 := ⟨Go.Proofs.Tryz.func180, by kernel_rfl⟩
theorem fo181 : FnOk Go.Proofs.Tryz.prog 181 Go.Proofs.Tryz.f181 := ⟨Go.Proofs.Tryz.func181, by kernel_rfl⟩
theorem fo182 : FnOk Go.Proofs.Tryz.prog 182 Go.Proofs.Tryz.f182 := ⟨Go.Proofs.Tryz.func182, by kernel_rfl⟩
theorem fo183 : FnOk Go.Proofs.Tryz.prog 183 Go.Proofs.Tryz.f183 := ⟨Go.Proofs.Tryz.func183, by kernel_rfl⟩
theorem fo184 : FnOk Go.Proofs.Tryz.prog 184 Go.Proofs.Tryz.f184 := ⟨Go.Proofs.Tryz.func184, by kernel_rfl⟩
theorem fo185 : FnOk Go.Proofs.Tryz.prog 185 Go.Proofs.Tryz.f185 := ⟨Go.Proofs.Tryz.func185, by kernel_rfl⟩
theorem fo186 : FnOk Go.Proofs.Tryz.prog 186 Go.Proofs.Tryz.f186 := ⟨Go.Proofs.Tryz.func186, by kernel_rfl⟩
theorem fo187 : FnOk Go.Proofs.Tryz.prog 187 Go.Proofs.Tryz.f187 := ⟨Go.Proofs.Tryz.func187, by kernel_rfl⟩
theorem fo188 : FnOk Go.Proofs.Tryz.prog 188 Go.Proofs.Tryz.f188 := ⟨Go.Proofs.Tryz.func188, by kernel_rfl⟩
theorem fo189 : FnOk Go.Proofs.Tryz.prog 189 Go.Proofs.Tryz.f189 := ⟨Go.Proofs.Tryz.func189, by kernel_rfl⟩
theorem fo190 : FnOk Go.Proofs.Tryz.prog 190 Go.Proofs.Tryz.f190 := ⟨Go.Proofs.Tryz.func190, by kernel_rfl⟩
theorem fo191 : FnOk Go.Proofs.Tryz.prog 191 Go.Proofs.Tryz.f191 := ⟨Go.Proofs.Tryz.func191, by kernel_rfl⟩
theorem fo192 : FnOk Go.Proofs.Tryz.prog 192 Go.Proofs.Tryz.f192 := ⟨Go.Proofs.Tryz.func192, by kernel_rfl⟩
theorem fo193 : FnOk Go.Proofs.Tryz.prog 193 Go.Proofs.Tryz.f193 := ⟨Go.Proofs.Tryz.func193, by kernel_rfl⟩
theorem fo194 : FnOk Go.Proofs.Tryz.prog 194 Go.Proofs.Tryz.f194 := ⟨Go.Proofs.Tryz.func194, by kernel_rfl⟩
theorem fo195 : FnOk Go.Proofs.Tryz.prog 195 Go.Proofs.Tryz.f195 := ⟨Go.Proofs.Tryz.func195, by kernel_rfl⟩
theorem fo196 : FnOk Go.Proofs.Tryz.prog 196 Go.Proofs.Tryz.f196 := ⟨Go.Proofs.Tryz.func196, by kernel_rfl⟩
theorem fo197 : FnOk Go.Proofs.Tryz.prog 197 Go.Proofs.Tryz.f197 := ⟨Go.Proofs.Tryz.func197, by kernel_rfl⟩
theorem fo198 : FnOk Go.Proofs.Tryz.prog 198 Go.Proofs.Tryz.f198 := ⟨Go.Proofs.Tryz.func198, by kernel_rfl⟩
theorem fo199 : FnOk Go.Proofs.Tryz.prog 199 Go.Proofs.Tryz.f199 := ⟨Go.Proofs.Tryz.func199, by kernel_rfl⟩
theorem fo200 : FnOk Go.Proofs.Tryz.prog 200 Go.Proofs.Tryz.f200 := ⟨Go.Proofs.Tryz.func200, by kernel_rfl⟩
theorem fo201 : FnOk Go.Proofs.Tryz.prog 201 Go.Proofs.Tryz.f201 := ⟨Go.Proofs.Tryz.func201, by kernel_rfl⟩
theorem fo202 : FnOk Go.Proofs.Tryz.prog 202 Go.Proofs.Tryz.f202 := ⟨Go.Proofs.Tryz.func202, by kernel_rfl⟩
theorem fo203 : FnOk Go.Proofs.Tryz.prog 203 Go.Proofs.Tryz.f203 := ⟨Go.Proofs.Tryz.func203, by kernel_rfl⟩
theorem fo204 : FnOk Go.Proofs.Tryz.prog 204 Go.Proofs.Tryz.f204 := ⟨Go.Proofs.Tryz.func204, by kernel_rfl⟩
theorem fo205 : FnOk Go.Proofs.Tryz.prog 205 Go.Proofs.Tryz.f205 := ⟨Go.Proofs.Tryz.func205, by kernel_rfl⟩
theorem fo206 : FnOk Go.Proofs.Tryz.prog 206 Go.Proofs.Tryz.f206 := ⟨Go.Proofs.Tryz.func206, by kernel_rfl⟩
theorem fo207 : FnOk Go.Proofs.Tryz.prog 207 Go.Proofs.Tryz.f207 := ⟨Go.Proofs.Tryz.func207, by kernel_rfl⟩
theorem fo208 : FnOk Go.Proofs.Tryz.prog 208 Go.Proofs.Tryz.f208 := ⟨Go.Proofs.Tryz.func208, by kernel_rfl⟩
theorem fo209 : FnOk Go.Proofs.Tryz.prog 209 Go.Proofs.Tryz.f209 := ⟨Go.Proofs.Tryz.func209, by kernel_rfl⟩
theorem fo210 : FnOk Go.Proofs.Tryz.prog 210 Go.Proofs.Tryz.f210 := ⟨Go.Proofs.Tryz.func210, by kernel_rfl⟩
theorem fo211 : FnOk Go.Proofs.Tryz.prog 211 Go.Proofs.Tryz.f211 := ⟨Go.Proofs.Tryz.func211, by kernel_rfl⟩
theorem fo212 : FnOk Go.Proofs.Tryz.prog 212 Go.Proofs.Tryz.f212 := ⟨Go.Proofs.Tryz.func212, by kernel_rfl⟩
theorem fo213 : FnOk Go.Proofs.Tryz.prog 213 Go.Proofs.Tryz.f213 := ⟨Go.Proofs.Tryz.func213, by kernel_rfl⟩
theorem fo214 : FnOk Go.Proofs.Tryz.prog 214 Go.Proofs.Tryz.f214 := ⟨Go.Proofs.Tryz.func214, by kernel_rfl⟩
theorem fo215 : FnOk Go.Proofs.Tryz.prog 215 Go.Proofs.Tryz.f215 := ⟨Go.Proofs.Tryz.func215, by kernel_rfl⟩
theorem fo216 : FnOk Go.Proofs.Tryz.prog 216 Go.Proofs.Tryz.f216 := ⟨Go.Proofs.Tryz.func216, by kernel_rfl⟩
theorem fo217 : FnOk Go.Proofs.Tryz.prog 217 Go.Proofs.Tryz.f217 := ⟨Go.Proofs.Tryz.func217, by kernel_rfl⟩
theorem fo218 : FnOk Go.Proofs.Tryz.prog 218 Go.Proofs.Tryz.f218 := ⟨Go.Proofs.Tryz.func218, by kernel_rfl⟩
theorem fo219 : FnOk Go.Proofs.Tryz.prog 219 Go.Proofs.Tryz.f219 := ⟨Go.Proofs.Tryz.func219, by kernel_rfl⟩
theorem fo220 : FnOk Go.Proofs.Tryz.prog 220 Go.Proofs.Tryz.f220 := ⟨Go.Proofs.Tryz.func220, by kernel_rfl⟩
theorem fo221 : FnOk Go.Proofs.Tryz.prog 221 Go.Proofs.Tryz.f221 := ⟨Go.Proofs.Tryz.func221, by kernel_rfl⟩
theorem fo222 : FnOk Go.Proofs.Tryz.prog 222 Go.Proofs.Tryz.f222 := ⟨Go.Proofs.Tryz.func222, by kernel_rfl⟩
theorem fo223 : FnOk Go.Proofs.Tryz.prog 223 Go.Proofs.Tryz.f223 := ⟨Go.Proofs.Tryz.func223, by kernel_rfl⟩
theorem fo224 : FnOk Go.Proofs.Tryz.prog 224 Go.Proofs.Tryz.f224 := ⟨Go.Proofs.Tryz.func224, by kernel_rfl⟩
theorem fo225 : FnOk Go.Proofs.Tryz.prog 225 Go.Proofs.Tryz.f225 := ⟨Go.Proofs.Tryz.func225, by kernel_rfl⟩
theorem fo226 : FnOk Go.Proofs.Tryz.prog 226 Go.Proofs.Tryz.f226 := ⟨Go.Proofs.Tryz.func226, by kernel_rfl⟩
theorem fo227 : FnOk Go.Proofs.Tryz.prog 227 Go.Proofs.Tryz.f227 := ⟨Go.Proofs.Tryz.func227, by kernel_rfl⟩
theorem fo228 : FnOk Go.Proofs.Tryz.prog 228 Go.Proofs.Tryz.f228 := ⟨Go.Proofs.Tryz.func228, by kernel_rfl⟩
theorem fo229 : FnOk Go.Proofs.Tryz.prog 229 Go.Proofs.Tryz.f229 := ⟨Go.Proofs.Tryz.func229, by kernel_rfl⟩
theorem fo230 : FnOk Go.Proofs.Tryz.prog 230 Go.Proofs.Tryz.f230 := ⟨Go.Proofs.Tryz.func230, by kernel_rfl⟩
theorem fo231 : FnOk Go.Proofs.Tryz.prog 231 Go.Proofs.Tryz.f231 := ⟨Go.Proofs.Tryz.func231, by kernel_rfl⟩
theorem fo232 : FnOk Go.Proofs.Tryz.prog 232 Go.Proofs.Tryz.f232 := ⟨Go.Proofs.Tryz.func232, by kernel_rfl⟩
theorem fo233 : FnOk Go.Proofs.Tryz.prog 233 Go.Proofs.Tryz.f233 := ⟨Go.Proofs.Tryz.func233, by kernel_rfl⟩
theorem fo234 : FnOk Go.Proofs.Tryz.prog 234 Go.Proofs.Tryz.f234 := ⟨Go.Proofs.Tryz.func234, by kernel_rfl⟩
theorem fo235 : FnOk Go.Proofs.Tryz.prog 235 Go.Proofs.Tryz.f235 := ⟨Go.Proofs.Tryz.func235, by kernel_rfl⟩
theorem fo236 : FnOk Go.Proofs.Tryz.prog 236 Go.Proofs.Tryz.f236 := ⟨Go.Proofs.Tryz.func236, by kernel_rfl⟩
theorem fo237 : FnOk Go.Proofs.Tryz.prog 237 Go.Proofs.Tryz.f237 := ⟨Go.Proofs.Tryz.func237, by kernel_rfl⟩
theorem fo238 : FnOk Go.Proofs.Tryz.prog 238 Go.Proofs.Tryz.f238 := ⟨Go.Proofs.Tryz.func238, by kernel_rfl⟩
theorem fo239 : FnOk Go.Proofs.Tryz.prog 239 Go.Proofs.Tryz.f239 := ⟨Go.Proofs.Tryz.func239, by kernel_rfl⟩
theorem fo240 : FnOk Go.Proofs.Tryz.prog 240 Go.Proofs.Tryz.f240 := ⟨Go.Proofs.Tryz.func240, by kernel_rfl⟩
theorem fo241 : FnOk Go.Proofs.Tryz.prog 241 Go.Proofs.Tryz.f241 := ⟨Go.Proofs.Tryz.func241, by kernel_rfl⟩
theorem fo242 : FnOk Go.Proofs.Tryz.prog 242 Go.Proofs.Tryz.f242 := ⟨Go.Proofs.Tryz.func242, by kernel_rfl⟩
theorem fo243 : FnOk Go.Proofs.Tryz.prog 243 Go.Proofs.Tryz.f243 := ⟨Go.Proofs.Tryz.func243, by kernel_rfl⟩
theorem fo244 : FnOk Go.Proofs.Tryz.prog 244 Go.Proofs.Tryz.f244 := ⟨Go.Proofs.Tryz.func244, by kernel_rfl⟩
theorem fo245 : FnOk Go.Proofs.Tryz.prog 245 Go.Proofs.Tryz.f245 := ⟨Go.Proofs.Tryz.func245, by kernel_rfl⟩
theorem fo246 : FnOk Go.Proofs.Tryz.prog 246 Go.Proofs.Tryz.f246 := ⟨Go.Proofs.Tryz.func246, by kernel_rfl⟩
theorem fo247 : FnOk Go.Proofs.Tryz.prog 247 Go.Proofs.Tryz.f247 := ⟨Go.Proofs.Tryz.func247, by kernel_rfl⟩
theorem fo248 : FnOk Go.Proofs.Tryz.prog 248 Go.Proofs.Tryz.f248 := ⟨Go.Proofs.Tryz.func248, by kernel_rfl⟩
theorem fo249 : FnOk Go.Proofs.Tryz.prog 249 Go.Proofs.Tryz.f249 := ⟨Go.Proofs.Tryz.func249, by kernel_rfl⟩
theorem fo250 : FnOk Go.Proofs.Tryz.prog 250 Go.Proofs.Tryz.f250 := ⟨Go.Proofs.Tryz.func250, by kernel_rfl⟩
theorem fo251 : FnOk Go.Proofs.Tryz.prog 251 Go.Proofs.Tryz.f251 := ⟨Go.Proofs.Tryz.func251, by kernel_rfl⟩
theorem fo252 : FnOk Go.Proofs.Tryz.prog 252 Go.Proofs.Tryz.f252 := ⟨Go.Proofs.Tryz.func252, by kernel_rfl⟩
theorem fo253 : FnOk Go.Proofs.Tryz.prog 253 Go.Proofs.Tryz.f253 := ⟨Go.Proofs.Tryz.func253, by kernel_rfl⟩
theorem fo254 : FnOk Go.Proofs.Tryz.prog 254 Go.Proofs.Tryz.f254 := ⟨Go.Proofs.Tryz.func254, by kernel_rfl⟩
theorem fo255 : FnOk Go.Proofs.Tryz.prog 255 Go.Proofs.Tryz.f255 := ⟨Go.Proofs.Tryz.func255, by kernel_rfl⟩
theorem fo256 : FnOk Go.Proofs.Tryz.prog 256 Go.Proofs.Tryz.f256 := ⟨Go.Proofs.Tryz.func256, by kernel_rfl⟩
theorem fo257 : FnOk Go.Proofs.Tryz.prog 257 Go.Proofs.Tryz.f257 := ⟨Go.Proofs.Tryz.func257, by kernel_rfl⟩
theorem fo258 : FnOk Go.Proofs.Tryz.prog 258 Go.Proofs.Tryz.f258 := ⟨Go.Proofs.Tryz.func258, by kernel_rfl⟩
theorem fo259 : FnOk Go.Proofs.Tryz.prog 259 Go.Proofs.Tryz.f259 := ⟨Go.Proofs.Tryz.func259, by kernel_rfl⟩
theorem fo260 : FnOk Go.Proofs.Tryz.prog 260 Go.Proofs.Tryz.f260 := ⟨Go.Proofs.Tryz.func260, by kernel_rfl⟩
theorem fo261 : FnOk Go.Proofs.Tryz.prog 261 Go.Proofs.Tryz.f261 := ⟨Go.Proofs.Tryz.func261, by kernel_rfl⟩
theorem fo262 : FnOk Go.Proofs.Tryz.prog 262 Go.Proofs.Tryz.f262 := ⟨Go.Proofs.Tryz.func262, by kernel_rfl⟩
theorem fo263 : FnOk Go.Proofs.Tryz.prog 263 Go.Proofs.Tryz.f263 := ⟨Go.Proofs.Tryz.func263, by kernel_rfl⟩
theorem fo264 : FnOk Go.Proofs.Tryz.prog 264 Go.Proofs.Tryz.f264 := ⟨Go.Proofs.Tryz.func264, by kernel_rfl⟩
theorem fo265 : FnOk Go.Proofs.Tryz.prog 265 Go.Proofs.Tryz.f265 := ⟨Go.Proofs.Tryz.func265, by kernel_rfl⟩
theorem fo266 : FnOk Go.Proofs.Tryz.prog 266 Go.Proofs.Tryz.f266 := ⟨Go.Proofs.Tryz.func266, by kernel_rfl⟩
theorem fo267 : FnOk Go.Proofs.Tryz.prog 267 Go.Proofs.Tryz.f267 := ⟨Go.Proofs.Tryz.func267, by kernel_rfl⟩
theorem fo268 : FnOk Go.Proofs.Tryz.prog 268 Go.Proofs.Tryz.f268 := ⟨Go.Proofs.Tryz.func268, by kernel_rfl⟩
theorem fo269 : FnOk Go.Proofs.Tryz.prog 269 Go.Proofs.Tryz.f269 := ⟨Go.Proofs.Tryz.func269, by kernel_rfl⟩
theorem fo270 : FnOk Go.Proofs.Tryz.prog 270 Go.Proofs.Tryz.f270 := ⟨Go.Proofs.Tryz.func270, by kernel_rfl⟩
theorem fo271 : FnOk Go.Proofs.Tryz.prog 271 Go.Proofs.Tryz.f271 := ⟨Go.Proofs.Tryz.func271, by kernel_rfl⟩
theorem fo272 : FnOk Go.Proofs.Tryz.prog 272 Go.Proofs.Tryz.f272 := ⟨Go.Proofs.Tryz.func272, by kernel_rfl⟩
theorem fo273 : FnOk Go.Proofs.Tryz.prog 273 Go.Proofs.Tryz.f273 := ⟨Go.Proofs.Tryz.func273, by kernel_rfl⟩
theorem fo274 : FnOk Go.Proofs.Tryz.prog 274 Go.Proofs.Tryz.f274 := ⟨Go.Proofs.Tryz.func274, by kernel_rfl⟩
theorem fo275 : FnOk Go.Proofs.Tryz.prog 275 Go.Proofs.Tryz.f275 := ⟨Go.Proofs.Tryz.func275, by kernel_rfl⟩
theorem fo276 : FnOk Go.Proofs.Tryz.prog 276 Go.Proofs.Tryz.f276 := ⟨Go.Proofs.Tryz.func276, by kernel_rfl⟩
theorem fo277 : FnOk Go.Proofs.Tryz.prog 277 Go.Proofs.Tryz.f277 := ⟨Go.Proofs.Tryz.func277, by kernel_rfl⟩
theorem fo278 : FnOk Go.Proofs.Tryz.prog 278 Go.Proofs.Tryz.f278 := ⟨Go.Proofs.Tryz.func278, by kernel_rfl⟩
theorem fo279 : FnOk Go.Proofs.Tryz.prog 279 Go.Proofs.Tryz.f279 := ⟨Go.Proofs.Tryz.func279, by kernel_rfl⟩
theorem fo280 : FnOk Go.Proofs.Tryz.prog 280 Go.Proofs.Tryz.f280 := ⟨Go.Proofs.Tryz.func280, by kernel_rfl⟩
theorem fo281 : FnOk Go.Proofs.Tryz.prog 281 Go.Proofs.Tryz.f281 := ⟨Go.Proofs.Tryz.func281, by kernel_rfl⟩
theorem fo282 : FnOk Go.Proofs.Tryz.prog 282 Go.Proofs.Tryz.f282 := ⟨Go.Proofs.Tryz.func282, by kernel_rfl⟩
theorem fo283 : FnOk Go.Proofs.Tryz.prog 283 Go.Proofs.Tryz.f283 := ⟨Go.Proofs.Tryz.func283, by kernel_rfl⟩
theorem fo284 : FnOk Go.Proofs.Tryz.prog 284 Go.Proofs.Tryz.f284 := ⟨Go.Proofs.Tryz.func284, by kernel_rfl⟩
theorem fo285 : FnOk Go.Proofs.Tryz.prog 285 Go.Proofs.Tryz.f285 := ⟨Go.Proofs.Tryz.func285, by kernel_rfl⟩
theorem fo286 : FnOk Go.Proofs.Tryz.prog 286 Go.Proofs.Tryz.f286 := ⟨Go.Proofs.Tryz.func286, by kernel_rfl⟩
theorem fo287 : FnOk Go.Proofs.Tryz.prog 287 Go.Proofs.Tryz.f287 := ⟨Go.Proofs.Tryz.func287, by kernel_rfl⟩
theorem fo288 : FnOk Go.Proofs.Tryz.prog 288 Go.Proofs.Tryz.f288 := ⟨Go.Proofs.Tryz.func288, by kernel_rfl⟩
theorem fo289 : FnOk Go.Proofs.Tryz.prog 289 Go.Proofs.Tryz.f289 := ⟨Go.Proofs.Tryz.func289, by kernel_rfl⟩
theorem fo290 : FnOk Go.Proofs.Tryz.prog 290 Go.Proofs.Tryz.f290 := ⟨Go.Proofs.Tryz.func290, by kernel_rfl⟩
theorem fo291 : FnOk Go.Proofs.Tryz.prog 291 Go.Proofs.Tryz.f291 := ⟨Go.Proofs.Tryz.func291, by kernel_rfl⟩
theorem fo292 : FnOk Go.Proofs.Tryz.prog 292 Go.Proofs.Tryz.f292 := ⟨Go.Proofs.Tryz.func292, by kernel_rfl⟩
theorem fo293 : FnOk Go.Proofs.Tryz.prog 293 Go.Proofs.Tryz.f293 := ⟨Go.Proofs.Tryz.func293, by kernel_rfl⟩
theorem fo294 : FnOk Go.Proofs.Tryz.prog 294 Go.Proofs.Tryz.f294 := ⟨Go.Proofs.Tryz.func294, by kernel_rfl⟩
theorem fo295 : FnOk Go.Proofs.Tryz.prog 295 Go.Proofs.Tryz.f295 := ⟨Go.Proofs.Tryz.func295, by kernel_rfl⟩
theorem fo296 : FnOk Go.Proofs.Tryz.prog 296 Go.Proofs.Tryz.f296 := ⟨Go.Proofs.Tryz.func296, by kernel_rfl⟩
theorem fo297 : FnOk Go.Proofs.Tryz.prog 297 Go.Proofs.Tryz.f297 := ⟨Go.Proofs.Tryz.func297, by kernel_rfl⟩
theorem fo298 : FnOk Go.Proofs.Tryz.prog 298 Go.Proofs.Tryz.f298 := ⟨Go.Proofs.Tryz.func298, by kernel_rfl⟩
theorem fo299 : FnOk Go.Proofs.Tryz.prog 299 Go.Proofs.Tryz.f299 := ⟨Go.Proofs.Tryz.func299, by kernel_rfl⟩
theorem fo300 : FnOk Go.Proofs.Tryz.prog 300 Go.Proofs.Tryz.f300 := ⟨Go.Proofs.Tryz.func300, by kernel_rfl⟩
theorem fo301 : FnOk Go.Proofs.Tryz.prog 301 Go.Proofs.Tryz.f301 := ⟨Go.Proofs.Tryz.func301, by kernel_rfl⟩
theorem fo302 : FnOk Go.Proofs.Tryz.prog 302 Go.Proofs.Tryz.f302 := ⟨Go.Proofs.Tryz.func302, by kernel_rfl⟩
theorem fo303 : FnOk Go.Proofs.Tryz.prog 303 Go.Proofs.Tryz.f303 := ⟨Go.Proofs.Tryz.func303, by kernel_rfl⟩
theorem fo304 : FnOk Go.Proofs.Tryz.prog 304 Go.Proofs.Tryz.f304 := ⟨Go.Proofs.Tryz.func304, by kernel_rfl⟩
theorem fo305 : FnOk Go.Proofs.Tryz.prog 305 Go.Proofs.Tryz.f305 := ⟨Go.Proofs.Tryz.func305, by kernel_rfl⟩
theorem fo306 : FnOk Go.Proofs.Tryz.prog 306 Go.Proofs.Tryz.f306 := ⟨Go.Proofs.Tryz.func306, by kernel_rfl⟩
theorem fo307 : FnOk Go.Proofs.Tryz.prog 307 Go.Proofs.Tryz.f307 := ⟨Go.Proofs.Tryz.func307, by kernel_rfl⟩
theorem fo308 : FnOk Go.Proofs.Tryz.prog 308 Go.Proofs.Tryz.f308 := ⟨Go.Proofs.Tryz.func308, by kernel_rfl⟩
theorem fo309 : FnOk Go.Proofs.Tryz.prog 309 Go.Proofs.Tryz.f309 := ⟨Go.Proofs.Tryz.func309, by kernel_rfl⟩
theorem fo310 : FnOk Go.Proofs.Tryz.prog 310 Go.Proofs.Tryz.f310 := ⟨Go.Proofs.Tryz.func310, by kernel_rfl⟩
theorem fo311 : FnOk Go.Proofs.Tryz.prog 311 Go.Proofs.Tryz.f311 := ⟨Go.Proofs.Tryz.func311, by kernel_rfl⟩
theorem fo312 : FnOk Go.Proofs.Tryz.prog 312 Go.Proofs.Tryz.f312 := ⟨Go.Proofs.Tryz.func312, by kernel_rfl⟩
theorem fo313 : FnOk Go.Proofs.Tryz.prog 313 Go.Proofs.Tryz.f313 := ⟨Go.Proofs.Tryz.func313, by kernel_rfl⟩
theorem fo314 : FnOk Go.Proofs.Tryz.prog 314 Go.Proofs.Tryz.f314 := ⟨Go.Proofs.Tryz.func314, by kernel_rfl⟩
theorem fo315 : FnOk Go.Proofs.Tryz.prog 315 Go.Proofs.Tryz.f315 := ⟨Go.Proofs.Tryz.func315, by kernel_rfl⟩
theorem fo316 : FnOk Go.Proofs.Tryz.prog 316 Go.Proofs.Tryz.f316 := ⟨Go.Proofs.Tryz.func316, by kernel_rfl⟩
theorem fo317 : FnOk Go.Proofs.Tryz.prog 317 Go.Proofs.Tryz.f317 := ⟨Go.Proofs.Tryz.func317, by kernel_rfl⟩
theorem fo318 : FnOk Go.Proofs.Tryz.prog 318 Go.Proofs.Tryz.f318 := ⟨Go.Proofs.Tryz.func318, by kernel_rfl⟩
theorem fo319 : FnOk Go.Proofs.Tryz.prog 319 Go.Proofs.Tryz.f319 := ⟨Go.Proofs.Tryz.func319, by kernel_rfl⟩
theorem fo320 : FnOk Go.Proofs.Tryz.prog 320 Go.Proofs.Tryz.f320 := ⟨Go.Proofs.Tryz.func320, by kernel_rfl⟩
theorem fo321 : FnOk Go.Proofs.Tryz.prog 321 Go.Proofs.Tryz.f321 := ⟨Go.Proofs.Tryz.func321, by kernel_rfl⟩
theorem fo322 : FnOk Go.Proofs.Tryz.prog 322 Go.Proofs.Tryz.f322 := ⟨Go.Proofs.Tryz.func322, by kernel_rfl⟩
theorem fo323 : FnOk Go.Proofs.Tryz.prog 323 Go.Proofs.Tryz.f323 := ⟨Go.Proofs.Tryz.func323, by kernel_rfl⟩
theorem fo324 : FnOk Go.Proofs.Tryz.prog 324 Go.Proofs.Tryz.f324 := ⟨Go.Proofs.Tryz.func324, by kernel_rfl⟩
theorem fo325 : FnOk Go.Proofs.Tryz.prog 325 Go.Proofs.Tryz.f325 := ⟨Go.Proofs.Tryz.func325, by kernel_rfl⟩
theorem fo326 : FnOk Go.Proofs.Tryz.prog 326 Go.Proofs.Tryz.f326 := ⟨Go.Proofs.Tryz.func326, by kernel_rfl⟩
theorem fo327 : FnOk Go.Proofs.Tryz.prog 327 Go.Proofs.Tryz.f327 := ⟨Go.Proofs.Tryz.func327, by kernel_rfl⟩
theorem fo328 : FnOk Go.Proofs.Tryz.prog 328 Go.Proofs.Tryz.f328 := ⟨Go.Proofs.Tryz.func328, by kernel_rfl⟩
theorem fo329 : FnOk Go.Proofs.Tryz.prog 329 Go.Proofs.Tryz.f329 := ⟨Go.Proofs.Tryz.func329, by kernel_rfl⟩
theorem fo330 : FnOk Go.Proofs.Tryz.prog 330 Go.Proofs.Tryz.f330 := ⟨Go.Proofs.Tryz.func330, by kernel_rfl⟩
theorem fo331 : FnOk Go.Proofs.Tryz.prog 331 Go.Proofs.Tryz.f331 := ⟨Go.Proofs.Tryz.func331, by kernel_rfl⟩
theorem fo332 : FnOk Go.Proofs.Tryz.prog 332 Go.Proofs.Tryz.f332 := ⟨Go.Proofs.Tryz.func332, by kernel_rfl⟩
theorem fo333 : FnOk Go.Proofs.Tryz.prog 333 Go.Proofs.Tryz.f333 := ⟨Go.Proofs.Tryz.func333, by kernel_rfl⟩
theorem fo334 : FnOk Go.Proofs.Tryz.prog 334 Go.Proofs.Tryz.f334 := ⟨Go.Proofs.Tryz.func334, by kernel_rfl⟩
theorem fo335 : FnOk Go.Proofs.Tryz.prog 335 Go.Proofs.Tryz.f335 := ⟨Go.Proofs.Tryz.func335, by kernel_rfl⟩
theorem fo336 : FnOk Go.Proofs.Tryz.prog 336 Go.Proofs.Tryz.f336 := ⟨Go.Proofs.Tryz.func336, by kernel_rfl⟩
theorem fo337 : FnOk Go.Proofs.Tryz.prog 337 Go.Proofs.Tryz.f337 := ⟨Go.Proofs.Tryz.func337, by kernel_rfl⟩
theorem fo338 : FnOk Go.Proofs.Tryz.prog 338 Go.Proofs.Tryz.f338 := ⟨Go.Proofs.Tryz.func338, by kernel_rfl⟩
theorem fo339 : FnOk Go.Proofs.Tryz.prog 339 Go.Proofs.Tryz.f339 := ⟨Go.Proofs.Tryz.func339, by kernel_rfl⟩
theorem fo340 : FnOk Go.Proofs.Tryz.prog 340 Go.Proofs.Tryz.f340 := ⟨Go.Proofs.Tryz.func340, by kernel_rfl⟩
theorem fo341 : FnOk Go.Proofs.Tryz.prog 341 Go.Proofs.Tryz.f341 := ⟨Go.Proofs.Tryz.func341, by kernel_rfl⟩
theorem fo342 : FnOk Go.Proofs.Tryz.prog 342 Go.Proofs.Tryz.f342 := ⟨Go.Proofs.Tryz.func342, by kernel_rfl⟩
theorem fo343 : FnOk Go.Proofs.Tryz.prog 343 Go.Proofs.Tryz.f343 := ⟨Go.Proofs.Tryz.func343, by kernel_rfl⟩
theorem fo344 : FnOk Go.Proofs.Tryz.prog 344 Go.Proofs.Tryz.f344 := ⟨Go.Proofs.Tryz.func344, by kernel_rfl⟩
theorem fo345 : FnOk Go.Proofs.Tryz.prog 345 Go.Proofs.Tryz.f345 := ⟨Go.Proofs.Tryz.func345, by kernel_rfl⟩
theorem fo346 : FnOk Go.Proofs.Tryz.prog 346 Go.Proofs.Tryz.f346 := ⟨Go.Proofs.Tryz.func346, by kernel_rfl⟩
theorem fo347 : FnOk Go.Proofs.Tryz.prog 347 Go.Proofs.Tryz.f347 := ⟨Go.Proofs.Tryz.func347, by kernel_rfl⟩
theorem fo348 : FnOk Go.Proofs.Tryz.prog 348 Go.Proofs.Tryz.f348 := ⟨Go.Proofs.Tryz.func348, by kernel_rfl⟩
theorem fo349 : FnOk Go.Proofs.Tryz.prog 349 Go.Proofs.Tryz.f349 := ⟨Go.Proofs.Tryz.func349, by kernel_rfl⟩
theorem fo350 : FnOk Go.Proofs.Tryz.prog 350 Go.Proofs.Tryz.f350 := ⟨Go.Proofs.Tryz.func350, by kernel_rfl⟩
theorem fo351 : FnOk Go.Proofs.Tryz.prog 351 Go.Proofs.Tryz.f351 := ⟨Go.Proofs.Tryz.func351, by kernel_rfl⟩
theorem fo352 : FnOk Go.Proofs.Tryz.prog 352 Go.Proofs.Tryz.f352 := ⟨Go.Proofs.Tryz.func352, by kernel_rfl⟩
theorem fo353 : FnOk Go.Proofs.Tryz.prog 353 Go.Proofs.Tryz.f353 := ⟨Go.Proofs.Tryz.func353, by kernel_rfl⟩
theorem fo354 : FnOk Go.Proofs.Tryz.prog 354 Go.Proofs.Tryz.f354 := ⟨Go.Proofs.Tryz.func354, by kernel_rfl⟩
theorem fo355 : FnOk Go.Proofs.Tryz.prog 355 Go.Proofs.Tryz.f355 := ⟨Go.Proofs.Tryz.func355, by kernel_rfl⟩
theorem fo356 : FnOk Go.Proofs.Tryz.prog 356 Go.Proofs.Tryz.f356 := ⟨Go.Proofs.Tryz.func356, by kernel_rfl⟩
theorem fo357 : FnOk Go.Proofs.Tryz.prog 357 Go.Proofs.Tryz.f357 := ⟨Go.Proofs.Tryz.func357, by kernel_rfl⟩
theorem fo358 : FnOk Go.Proofs.Tryz.prog 358 Go.Proofs.Tryz.f358 := ⟨Go.Proofs.Tryz.func358, by kernel_rfl⟩
theorem fo359 : FnOk Go.Proofs.Tryz.prog 359 Go.Proofs.Tryz.f359 := ⟨Go.Proofs.Tryz.func359, by kernel_rfl⟩
theorem fo360 : FnOk Go.Proofs.Tryz.prog 360 Go.Proofs.Tryz.f360 := ⟨Go.Proofs.Tryz.func360, by kernel_rfl⟩
theorem fo361 : FnOk Go.Proofs.Tryz.prog 361 Go.Proofs.Tryz.f361 := ⟨Go.Proofs.Tryz.func361, by kernel_rfl⟩
theorem fo362 : FnOk Go.Proofs.Tryz.prog 362 Go.Proofs.Tryz.f362 := ⟨Go.Proofs.Tryz.func362, by kernel_rfl⟩
theorem fo363 : FnOk Go.Proofs.Tryz.prog 363 Go.Proofs.Tryz.f363 := ⟨Go.Proofs.Tryz.func363, by kernel_rfl⟩
theorem fo364 : FnOk Go.Proofs.Tryz.prog 364 Go.Proofs.Tryz.f364 := ⟨Go.Proofs.Tryz.func364, by kernel_rfl⟩
theorem fo365 : FnOk Go.Proofs.Tryz.prog 365 Go.Proofs.Tryz.f365 := ⟨Go.Proofs.Tryz.func365, by kernel_rfl⟩
theorem fo366 : FnOk Go.Proofs.Tryz.prog 366 Go.Proofs.Tryz.f366 := ⟨Go.Proofs.Tryz.func366, by kernel_rfl⟩
theorem fo367 : FnOk Go.Proofs.Tryz.prog 367 Go.Proofs.Tryz.f367 := ⟨Go.Proofs.Tryz.func367, by kernel_rfl⟩
theorem fo368 : FnOk Go.Proofs.Tryz.prog 368 Go.Proofs.Tryz.f368 := ⟨Go.Proofs.Tryz.func368, by kernel_rfl⟩
theorem fo369 : FnOk Go.Proofs.Tryz.prog 369 Go.Proofs.Tryz.f369 := ⟨Go.Proofs.Tryz.func369, by kernel_rfl⟩
theorem fo370 : FnOk Go.Proofs.Tryz.prog 370 Go.Proofs.Tryz.f370 := ⟨Go.Proofs.Tryz.func370, by kernel_rfl⟩
theorem fo371 : FnOk Go.Proofs.Tryz.prog 371 Go.Proofs.Tryz.f371 := ⟨Go.Proofs.Tryz.func371, by kernel_rfl⟩
theorem fo372 : FnOk Go.Proofs.Tryz.prog 372 Go.Proofs.Tryz.f372 := ⟨Go.Proofs.Tryz.func372, by kernel_rfl⟩
theorem fo373 : FnOk Go.Proofs.Tryz.prog 373 Go.Proofs.Tryz.f373 := ⟨Go.Proofs.Tryz.func373, by kernel_rfl⟩
theorem fo374 : FnOk Go.Proofs.Tryz.prog 374 Go.Proofs.Tryz.f374 := ⟨Go.Proofs.Tryz.func374, by kernel_rfl⟩
theorem fo375 : FnOk Go.Proofs.Tryz.prog 375 Go.Proofs.Tryz.f375 := ⟨Go.Proofs.Tryz.func375, by kernel_rfl⟩
theorem fo376 : FnOk Go.Proofs.Tryz.prog 376 Go.Proofs.Tryz.f376 := ⟨Go.Proofs.Tryz.func376, by kernel_rfl⟩
theorem fo377 : FnOk Go.Proofs.Tryz.prog 377 Go.Proofs.Tryz.f377 := ⟨Go.Proofs.Tryz.func377, by kernel_rfl⟩
theorem fo378 : FnOk Go.Proofs.Tryz.prog 378 Go.Proofs.Tryz.f378 := ⟨Go.Proofs.Tryz.func378, by kernel_rfl⟩
theorem fo379 : FnOk Go.Proofs.Tryz.prog 379 Go.Proofs.Tryz.f379 := ⟨Go.Proofs.Tryz.func379, by kernel_rfl⟩
theorem fo380 : FnOk Go.Proofs.Tryz.prog 380 Go.Proofs.Tryz.f380 := ⟨Go.Proofs.Tryz.func380, by kernel_rfl⟩
theorem fo381 : FnOk Go.Proofs.Tryz.prog 381 Go.Proofs.Tryz.f381 := ⟨Go.Proofs.Tryz.func381, by kernel_rfl⟩
theorem fo382 : FnOk Go.Proofs.Tryz.prog 382 Go.Proofs.Tryz.f382 := ⟨Go.Proofs.Tryz.func382, by kernel_rfl⟩
theorem fo383 : FnOk Go.Proofs.Tryz.prog 383 Go.Proofs.Tryz.f383 := ⟨Go.Proofs.Tryz.func383, by kernel_rfl⟩
theorem fo384 : FnOk Go.Proofs.Tryz.prog 384 Go.Proofs.Tryz.f384 := ⟨Go.Proofs.Tryz.func384, by kernel_rfl⟩
theorem fo385 : FnOk Go.Proofs.Tryz.prog 385 Go.Proofs.Tryz.f385 := ⟨Go.Proofs.Tryz.func385, by kernel_rfl⟩
theorem fo386 : FnOk Go.Proofs.Tryz.prog 386 Go.Proofs.Tryz.f386 := ⟨Go.Proofs.Tryz.func386, by kernel_rfl⟩
theorem fo387 : FnOk Go.Proofs.Tryz.prog 387 Go.Proofs.Tryz.f387 := ⟨Go.Proofs.Tryz.func387, by kernel_rfl⟩
theorem fo388 : FnOk Go.Proofs.Tryz.prog 388 Go.Proofs.Tryz.f388 := ⟨Go.Proofs.Tryz.func388, by kernel_rfl⟩
theorem fo389 : FnOk Go.Proofs.Tryz.prog 389 Go.Proofs.Tryz.f389 := ⟨Go.Proofs.Tryz.func389, by kernel_rfl⟩
theorem fo390 : FnOk Go.Proofs.Tryz.prog 390 Go.Proofs.Tryz.f390 := ⟨Go.Proofs.Tryz.func390, by kernel_rfl⟩
theorem fo391 : FnOk Go.Proofs.Tryz.prog 391 Go.Proofs.Tryz.f391 := ⟨Go.Proofs.Tryz.func391, by kernel_rfl⟩
theorem fo392 : FnOk Go.Proofs.Tryz.prog 392 Go.Proofs.Tryz.f392 := ⟨Go.Proofs.Tryz.func392, by kernel_rfl⟩
theorem fo393 : FnOk Go.Proofs.Tryz.prog 393 Go.Proofs.Tryz.f393 := ⟨Go.Proofs.Tryz.func393, by kernel_rfl⟩
theorem fo394 : FnOk Go.Proofs.Tryz.prog 394 Go.Proofs.Tryz.f394 := ⟨Go.Proofs.Tryz.func394, by kernel_rfl⟩
theorem fo395 : FnOk Go.Proofs.Tryz.prog 395 Go.Proofs.Tryz.f395 := ⟨Go.Proofs.Tryz.func395, by kernel_rfl⟩
theorem fo396 : FnOk Go.Proofs.Tryz.prog 396 Go.Proofs.Tryz.f396 := ⟨Go.Proofs.Tryz.func396, by kernel_rfl⟩
theorem fo397 : FnOk Go.Proofs.Tryz.prog 397 Go.Proofs.Tryz.f397 := ⟨Go.Proofs.Tryz.func397, by kernel_rfl⟩
theorem fo398 : FnOk Go.Proofs.Tryz.prog 398 Go.Proofs.Tryz.f398 := ⟨Go.Proofs.Tryz.func398, by kernel_rfl⟩
theorem fo399 : FnOk Go.Proofs.Tryz.prog 399 Go.Proofs.Tryz.f399 := ⟨Go.Proofs.Tryz.func399, by kernel_rfl⟩
theorem fo400 : FnOk Go.Proofs.Tryz.prog 400 Go.Proofs.Tryz.f400 := ⟨Go.Proofs.Tryz.func400, by kernel_rfl⟩
theorem fo401 : FnOk Go.Proofs.Tryz.prog 401 Go.Proofs.Tryz.f401 := ⟨Go.Proofs.Tryz.func401, by kernel_rfl⟩
theorem fo402 : FnOk Go.Proofs.Tryz.prog 402 Go.Proofs.Tryz.f402 := ⟨Go.Proofs.Tryz.func402, by kernel_rfl⟩
theorem fo403 : FnOk Go.Proofs.Tryz.prog 403 Go.Proofs.Tryz.f403 := ⟨Go.Proofs.Tryz.func403, by kernel_rfl⟩
theorem fo404 : FnOk Go.Proofs.Tryz.prog 404 Go.Proofs.Tryz.f404 := ⟨Go.Proofs.Tryz.func404, by kernel_rfl⟩
theorem fo405 : FnOk Go.Proofs.Tryz.prog 405 Go.Proofs.Tryz.f405 := ⟨Go.Proofs.Tryz.func405, by kernel_rfl⟩
theorem fo406 : FnOk Go.Proofs.Tryz.prog 406 Go.Proofs.Tryz.f406 := ⟨Go.Proofs.Tryz.func406, by kernel_rfl⟩
theorem fo407 : FnOk Go.Proofs.Tryz.prog 407 Go.Proofs.Tryz.f407 := ⟨Go.Proofs.Tryz.func407, by kernel_rfl⟩
theorem fo408 : FnOk Go.Proofs.Tryz.prog 408 Go.Proofs.Tryz.f408 := ⟨Go.Proofs.Tryz.func408, by kernel_rfl⟩
theorem fo409 : FnOk Go.Proofs.Tryz.prog 409 Go.Proofs.Tryz.f409 := ⟨Go.Proofs.Tryz.func409, by kernel_rfl⟩
theorem fo410 : FnOk Go.Proofs.Tryz.prog 410 Go.Proofs.Tryz.f410 := ⟨Go.Proofs.Tryz.func410, by kernel_rfl⟩
theorem fo411 : FnOk Go.Proofs.Tryz.prog 411 Go.Proofs.Tryz.f411 := ⟨Go.Proofs.Tryz.func411, by kernel_rfl⟩
theorem fo412 : FnOk Go.Proofs.Tryz.prog 412 Go.Proofs.Tryz.f412 := ⟨Go.Proofs.Tryz.func412, by kernel_rfl⟩
theorem fo413 : FnOk Go.Proofs.Tryz.prog 413 Go.Proofs.Tryz.f413 := ⟨Go.Proofs.Tryz.func413, by kernel_rfl⟩
theorem fo414 : FnOk Go.Proofs.Tryz.prog 414 Go.Proofs.Tryz.f414 := ⟨Go.Proofs.Tryz.func414, by kernel_rfl⟩
theorem fo415 : FnOk Go.Proofs.Tryz.prog 415 Go.Proofs.Tryz.f415 := ⟨Go.Proofs.Tryz.func415, by kernel_rfl⟩
theorem fo416 : FnOk Go.Proofs.Tryz.prog 416 Go.Proofs.Tryz.f416 := ⟨Go.Proofs.Tryz.func416, by kernel_rfl⟩
theorem fo417 : FnOk Go.Proofs.Tryz.prog 417 Go.Proofs.Tryz.f417 := ⟨Go.Proofs.Tryz.func417, by kernel_rfl⟩
theorem fo418 : FnOk Go.Proofs.Tryz.prog 418 Go.Proofs.Tryz.f418 := ⟨Go.Proofs.Tryz.func418, by kernel_rfl⟩
theorem fo419 : FnOk Go.Proofs.Tryz.prog 419 Go.Proofs.Tryz.f419 := ⟨Go.Proofs.Tryz.func419, by kernel_rfl⟩
theorem fo420 : FnOk Go.Proofs.Tryz.prog 420 Go.Proofs.Tryz.f420 := ⟨Go.Proofs.Tryz.func420, by kernel_rfl⟩
theorem fo421 : FnOk Go.Proofs.Tryz.prog 421 Go.Proofs.Tryz.f421 := ⟨Go.Proofs.Tryz.func421, by kernel_rfl⟩
theorem fo422 : FnOk Go.Proofs.Tryz.prog 422 Go.Proofs.Tryz.f422 := ⟨Go.Proofs.Tryz.func422, by kernel_rfl⟩
theorem fo423 : FnOk Go.Proofs.Tryz.prog 423 Go.Proofs.Tryz.f423 := ⟨Go.Proofs.Tryz.func423, by kernel_rfl⟩
theorem fo424 : FnOk Go.Proofs.Tryz.prog 424 Go.Proofs.Tryz.f424 := ⟨Go.Proofs.Tryz.func424, by kernel_rfl⟩
theorem fo425 : FnOk Go.Proofs.Tryz.prog 425 Go.Proofs.Tryz.f425 := ⟨Go.Proofs.Tryz.func425, by kernel_rfl⟩
theorem fo426 : FnOk Go.Proofs.Tryz.prog 426 Go.Proofs.Tryz.f426 := ⟨Go.Proofs.Tryz.func426, by kernel_rfl⟩
theorem fo427 : FnOk Go.Proofs.Tryz.prog 427 Go.Proofs.Tryz.f427 := ⟨Go.Proofs.Tryz.func427, by kernel_rfl⟩
theorem fo428 : FnOk Go.Proofs.Tryz.prog 428 Go.Proofs.Tryz.f428 := ⟨Go.Proofs.Tryz.func428, by kernel_rfl⟩
theorem fo429 : FnOk Go.Proofs.Tryz.prog 429 Go.Proofs.Tryz.f429 := ⟨Go.Proofs.Tryz.func429, by kernel_rfl⟩
theorem fo430 : FnOk Go.Proofs.Tryz.prog 430 Go.Proofs.Tryz.f430 := ⟨Go.Proofs.Tryz.func430, by kernel_rfl⟩
theorem fo431 : FnOk Go.Proofs.Tryz.prog 431 Go.Proofs.Tryz.f431 := ⟨Go.Proofs.Tryz.func431, by kernel_rfl⟩
theorem fo432 : FnOk Go.Proofs.Tryz.prog 432 Go.Proofs.Tryz.f432 := ⟨Go.Proofs.Tryz.func432, by kernel_rfl⟩
theorem fo433 : FnOk Go.Proofs.Tryz.prog 433 Go.Proofs.Tryz.f433 := ⟨Go.Proofs.Tryz.func433, by kernel_rfl⟩
theorem fo434 : FnOk Go.Proofs.Tryz.prog 434 Go.Proofs.Tryz.f434 := ⟨Go.Proofs.Tryz.func434, by kernel_rfl⟩
theorem fo435 : FnOk Go.Proofs.Tryz.prog 435 Go.Proofs.Tryz.f435 := ⟨Go.Proofs.Tryz.func435, by kernel_rfl⟩
theorem fo436 : FnOk Go.Proofs.Tryz.prog 436 Go.Proofs.Tryz.f436 := ⟨Go.Proofs.Tryz.func436, by kernel_rfl⟩
theorem fo437 : FnOk Go.Proofs.Tryz.prog 437 Go.Proofs.Tryz.f437 := ⟨Go.Proofs.Tryz.func437, by kernel_rfl⟩
theorem fo438 : FnOk Go.Proofs.Tryz.prog 438 Go.Proofs.Tryz.f438 := ⟨Go.Proofs.Tryz.func438, by kernel_rfl⟩
theorem fo439 : FnOk Go.Proofs.Tryz.prog 439 Go.Proofs.Tryz.f439 := ⟨Go.Proofs.Tryz.func439, by kernel_rfl⟩
theorem fo440 : FnOk Go.Proofs.Tryz.prog 440 Go.Proofs.Tryz.f440 := ⟨Go.Proofs.Tryz.func440, by kernel_rfl⟩
theorem fo441 : FnOk Go.Proofs.Tryz.prog 441 Go.Proofs.Tryz.f441 := ⟨Go.Proofs.Tryz.func441, by kernel_rfl⟩
theorem fo442 : FnOk Go.Proofs.Tryz.prog 442 Go.Proofs.Tryz.f442 := ⟨Go.Proofs.Tryz.func442, by kernel_rfl⟩
theorem fo443 : FnOk Go.Proofs.Tryz.prog 443 Go.Proofs.Tryz.f443 := ⟨Go.Proofs.Tryz.func443, by kernel_rfl⟩
theorem fo444 : FnOk Go.Proofs.Tryz.prog 444 Go.Proofs.Tryz.f444 := ⟨Go.Proofs.Tryz.func444, by kernel_rfl⟩
theorem fo445 : FnOk Go.Proofs.Tryz.prog 445 Go.Proofs.Tryz.f445 := ⟨Go.Proofs.Tryz.func445, by kernel_rfl⟩
theorem fo446 : FnOk Go.Proofs.Tryz.prog 446 Go.Proofs.Tryz.f446 := ⟨Go.Proofs.Tryz.func446, by kernel_rfl⟩
theorem fo447 : FnOk Go.Proofs.Tryz.prog 447 Go.Proofs.Tryz.f447 := ⟨Go.Proofs.Tryz.func447, by kernel_rfl⟩
theorem fo448 : FnOk Go.Proofs.Tryz.prog 448 Go.Proofs.Tryz.f448 := ⟨Go.Proofs.Tryz.func448, by kernel_rfl⟩
theorem fo449 : FnOk Go.Proofs.Tryz.prog 449 Go.Proofs.Tryz.f449 := ⟨Go.Proofs.Tryz.func449, by kernel_rfl⟩
theorem fo450 : FnOk Go.Proofs.Tryz.prog 450 Go.Proofs.Tryz.f450 := ⟨Go.Proofs.Tryz.func450, by kernel_rfl⟩
theorem fo451 : FnOk Go.Proofs.Tryz.prog 451 Go.Proofs.Tryz.f451 := ⟨Go.Proofs.Tryz.func451, by kernel_rfl⟩
theorem fo452 : FnOk Go.Proofs.Tryz.prog 452 Go.Proofs.Tryz.f452 := ⟨Go.Proofs.Tryz.func452, by kernel_rfl⟩
theorem fo453 : FnOk Go.Proofs.Tryz.prog 453 Go.Proofs.Tryz.f453 := ⟨Go.Proofs.Tryz.func453, by kernel_rfl⟩
theorem fo454 : FnOk Go.Proofs.Tryz.prog 454 Go.Proofs.Tryz.f454 := ⟨Go.Proofs.Tryz.func454, by kernel_rfl⟩
theorem fo455 : FnOk Go.Proofs.Tryz.prog 455 Go.Proofs.Tryz.f455 := ⟨Go.Proofs.Tryz.func455, by kernel_rfl⟩
theorem fo456 : FnOk Go.Proofs.Tryz.prog 456 Go.Proofs.Tryz.f456 := ⟨Go.Proofs.Tryz.func456, by kernel_rfl⟩
theorem fo457 : FnOk Go.Proofs.Tryz.prog 457 Go.Proofs.Tryz.f457 := ⟨Go.Proofs.Tryz.func457, by kernel_rfl⟩
theorem fo458 : FnOk Go.Proofs.Tryz.prog 458 Go.Proofs.Tryz.f458 := ⟨Go.Proofs.Tryz.func458, by kernel_rfl⟩
theorem fo459 : FnOk Go.Proofs.Tryz.prog 459 Go.Proofs.Tryz.f459 := ⟨Go.Proofs.Tryz.func459, by kernel_rfl⟩
theorem fo460 : FnOk Go.Proofs.Tryz.prog 460 Go.Proofs.Tryz.f460 := ⟨Go.Proofs.Tryz.func460, by kernel_rfl⟩
theorem fo461 : FnOk Go.Proofs.Tryz.prog 461 Go.Proofs.Tryz.f461 := ⟨Go.Proofs.Tryz.func461, by kernel_rfl⟩
theorem fo462 : FnOk Go.Proofs.Tryz.prog 462 Go.Proofs.Tryz.f462 := ⟨Go.Proofs.Tryz.func462, by kernel_rfl⟩
theorem fo463 : FnOk Go.Proofs.Tryz.prog 463 Go.Proofs.Tryz.f463 := ⟨Go.Proofs.Tryz.func463, by kernel_rfl⟩
theorem fo464 : FnOk Go.Proofs.Tryz.prog 464 Go.Proofs.Tryz.f464 := ⟨Go.Proofs.Tryz.func464, by kernel_rfl⟩
theorem fo465 : FnOk Go.Proofs.Tryz.prog 465 Go.Proofs.Tryz.f465 := ⟨Go.Proofs.Tryz.func465, by kernel_rfl⟩
theorem fo466 : FnOk Go.Proofs.Tryz.prog 466 Go.Proofs.Tryz.f466 := ⟨Go.Proofs.Tryz.func466, by kernel_rfl⟩
theorem fo467 : FnOk Go.Proofs.Tryz.prog 467 Go.Proofs.Tryz.f467 := ⟨Go.Proofs.Tryz.func467, by kernel_rfl⟩
theorem fo468 : FnOk Go.Proofs.Tryz.prog 468 Go.Proofs.Tryz.f468 := ⟨Go.Proofs.Tryz.func468, by kernel_rfl⟩
theorem fo469 : FnOk Go.Proofs.Tryz.prog 469 Go.Proofs.Tryz.f469 := ⟨Go.Proofs.Tryz.func469, by kernel_rfl⟩
theorem fo470 : FnOk Go.Proofs.Tryz.prog 470 Go.Proofs.Tryz.f470 := ⟨Go.Proofs.Tryz.func470, by kernel_rfl⟩
theorem fo471 : FnOk Go.Proofs.Tryz.prog 471 Go.Proofs.Tryz.f471 := ⟨Go.Proofs.Tryz.func471, by kernel_rfl⟩
theorem fo472 : FnOk Go.Proofs.Tryz.prog 472 Go.Proofs.Tryz.f472 := ⟨Go.Proofs.Tryz.func472, by kernel_rfl⟩
theorem fo474 : FnOk Go.Proofs.Tryz.prog 474 Go.Proofs.Tryz.f474 := ⟨Go.Proofs.Tryz.func474, by kernel_rfl⟩
theorem fo475 : FnOk Go.Proofs.Tryz.prog 475 Go.Proofs.Tryz.f475 := ⟨Go.Proofs.Tryz.func475, by kernel_rfl⟩
theorem fo476 : FnOk Go.Proofs.Tryz.prog 476 Go.Proofs.Tryz.f476 := ⟨Go.Proofs.Tryz.func476, by kernel_rfl⟩
noncomputable def ft : Tr Func := (.node none (.node none (.node (some Go.Proofs.Tryz.f3) (.node (some Go.Proofs.Tryz.f7) (.node (some Go.Proofs.Tryz.f15) (.node (some Go.Proofs.Tryz.f31) (.node (some Go.Proofs.Tryz.f63) (.node (some Go.Proofs.Tryz.f127) (.node (some Go.Proofs.Tryz.f255) .leaf .leaf) (.node (some Go.Proofs.Tryz.f383) .leaf .leaf)) (.node (some Go.Proofs.Tryz.f191) (.node (some Go.Proofs.Tryz.f319) .leaf .leaf) (.node (some Go.Proofs.Tryz.f447) .leaf .leaf))) (.node (some Go.Proofs.Tryz.f95) (.node (some Go.Proofs.Tryz.f159) (.node (some Go.Proofs.Tryz.f287) .leaf .leaf) (.node (some Go.Proofs.Tryz.f415) .leaf .leaf)) (.node (some Go.Proofs.Tryz.f223) (.node (some Go.Proofs.Tryz.f351) .leaf .leaf) .leaf))) (.node (some Go.Proofs.Tryz.f47) (.node (some Go.Proofs.Tryz.f79) (.node (some Go.Proofs.Tryz.f143) (.node (some Go.Proofs.Tryz.f271) .leaf .leaf) (.node (some Go.Proofs.Tryz.f399) .leaf .leaf)) (.node (some Go.Proofs.Tryz.f207) (.node (some Go.Proofs.Tryz.f335) .leaf .leaf) (.node (some Go.Proofs.Tryz.f463) .leaf .leaf))) (.node (some Go.Proofs.Tryz.f111) (.node (some Go.Proofs.Tryz.f175) (.node (some Go.Proofs.Tryz.f303) .leaf .leaf) (.node (some Go.Proofs.Tryz.f431) .leaf .leaf)) (.node (some Go.Proofs.Tryz.f239) (.node (some Go.Proofs.Tryz.f367) .leaf .leaf) .leaf)))) (.node (some Go.Proofs.Tryz.f23) (.node (some Go.Proofs.Tryz.f39) (.node (some Go.Proofs.Tryz.f71) (.node (some Go.Proofs.Tryz.f135) (.node (some Go.Proofs.Tryz.f263) .leaf .leaf) (.node (some Go.Proofs.Tryz.f391) .leaf .leaf)) (.node (some Go.Proofs.Tryz.f199) (.node (some Go.Proofs.Tryz.f327) .leaf .leaf) (.node (some Go.Proofs.Tryz.f455) .leaf .leaf))) (.node (some Go.Proofs.Tryz.f103) (.node (some Go.Proofs.Tryz.f167) (.node (some Go.Proofs.Tryz.f295) .leaf .leaf) (.node (some Go.Proofs.Tryz.f423) .leaf .leaf)) (.node (some Go.Proofs.Tryz.f231) (.node (some Go.Proofs.Tryz.f359) .leaf .leaf) .leaf))) (.node (some Go.Proofs.Tryz.f55) (.node (some Go.Proofs.Tryz.f87) (.node (some Go.Proofs.Tryz.f151) (.node (some Go.Proofs.Tryz.f279) .leaf .leaf) (.node (some Go.Proofs.Tryz.f407) .leaf .leaf)) (.node (some Go.Proofs.Tryz.f215) (.node (some Go.Proofs.Tryz.f343) .leaf .leaf) (.node (some Go.Proofs.Tryz.f471) .leaf .leaf))) (.node (some Go.Proofs.Tryz.f119) (.node (some Go.Proofs.Tryz.f183) (.node (some Go.Proofs.Tryz.f311) .leaf .leaf) (.node (some Go.Proofs.Tryz.f439) .leaf .leaf)) (.node (some Go.Proofs.Tryz.f247) (.node (some Go.Proofs.Tryz.f375) .leaf .leaf) .leaf))))) (.node (some Go.Proofs.Tryz.f11) (.node (some Go.Proofs.Tryz.f19) (.node (some Go.Proofs.Tryz.f35) (.node (some Go.Proofs.Tryz.f67) (.node (some Go.Proofs.Tryz.f131) (.node (some Go.Proofs.Tryz.f259) .leaf .leaf) (.node (some Go.Proofs.Tryz.f387) .leaf .leaf)) (.node (some Go.Proofs.Tryz.f195) (.node (some Go.Proofs.Tryz.f323) .leaf .leaf) (.node (some Go.Proofs.Tryz.f451) .leaf .leaf))) (.node (some Go.Proofs.Tryz.f99) (.node (some Go.Proofs.Tryz.f163) (.node (some Go.Proofs.Tryz.f291) .leaf .leaf) (.node (some Go.Proofs.Tryz.f419) .leaf .leaf)) (.node (some Go.Proofs.Tryz.f227) (.node (some Go.Proofs.Tryz.f355) .leaf .leaf) .leaf))) (.node (some Go.Proofs.Tryz.f51) (.node (some Go.Proofs.Tryz.f83) (.node (some Go.Proofs.Tryz.f147) (.node (some Go.Proofs.Tryz.f275) .leaf .leaf) (.node (some Go.Proofs.Tryz.f403) .leaf .leaf)) (.node (some Go.Proofs.Tryz.f211) (.node (some Go.Proofs.Tryz.f339) .leaf .leaf) (.node (some Go.Proofs.Tryz.f467) .leaf .leaf))) (.node (some Go.Proofs.Tryz.f115) (.node (some Go.Proofs.Tryz.f179) (.node (some Go.Proofs.Tryz.f307) .leaf .leaf) (.node (some Go.Proofs.Tryz.f435) .leaf .leaf)) (.node (some Go.Proofs.Tryz.f243) (.node (some Go.Proofs.Tryz.f371) .leaf .leaf) .leaf)))) (.node (some Go.Proofs.Tryz.f27) (.node (some Go.Proofs.Tryz.f43) (.node (some Go.Proofs.Tryz.f75) (.node (some Go.Proofs.Tryz.f139) (.node (some Go.Proofs.Tryz.f267) .leaf .leaf) (.node (some Go.Proofs.Tryz.f395) .leaf .leaf)) (.node (some Go.Proofs.Tryz.f203) (.node (some Go.Proofs.Tryz.f331) .leaf .leaf) (.node (some Go.Proofs.Tryz.f459) .leaf .leaf))) (.node (some Go.Proofs.Tryz.f107) (.node (some Go.Proofs.Tryz.f171) (.node (some Go.Proofs.Tryz.f299) .leaf .leaf) (.node (some Go.Proofs.Tryz.f427) .leaf .leaf)) (.node (some Go.Proofs.Tryz.f235) (.node (some Go.Proofs.Tryz.f363) .leaf .leaf) .leaf))) (.node (some Go.Proofs.Tryz.f59) (.node (some Go.Proofs.Tryz.f91) (.node (some Go.Proofs.Tryz.f155) (.node (some Go.Proofs.Tryz.f283) .leaf .leaf) (.node (some Go.Proofs.Tryz.f411) .leaf .leaf)) (.node (some Go.Proofs.Tryz.f219) (.node (some Go.Proofs.Tryz.f347) .leaf .leaf) (.node (some Go.Proofs.Tryz.f475) .leaf .leaf))) (.node (some Go.Proofs.Tryz.f123) (.node (some Go.Proofs.Tryz.f187) (.node (some Go.Proofs.Tryz.f315) .leaf .leaf) (.node (some Go.Proofs.Tryz.f443) .leaf .leaf)) (.node (some Go.Proofs.Tryz.f251) (.node (some Go.Proofs.Tryz.f379) .leaf .leaf) .leaf)))))) (.node (some Go.Proofs.Tryz.f5) (.node (some Go.Proofs.Tryz.f9) (.node (some Go.Proofs.Tryz.f17) (.node (some Go.Proofs.Tryz.f33) (.node (some Go.Proofs.Tryz.f65) (.node (some Go.Proofs.Tryz.f129) (.node (some Go.Proofs.Tryz.f257) .leaf .leaf) (.node (some Go.Proofs.Tryz.f385) .leaf .leaf)) (.node (some Go.Proofs.Tryz.f193) (.node (some Go.Proofs.Tryz.f321) .leaf .leaf) (.node (some Go.Proofs.Tryz.f449) .leaf .leaf))) (.node (some Go.Proofs.Tryz.f97) (.node (some Go.Proofs.Tryz.f161) (.node (some Go.Proofs.Tryz.f289) .leaf .leaf) (.node (some Go.Proofs.Tryz.f417) .leaf .leaf)) (.node (some Go.Proofs.Tryz.f225) (.node (some Go.Proofs.Tryz.f353) .leaf .leaf) .leaf))) (.node (some Go.Proofs.Tryz.f49) (.node (some Go.Proofs.Tryz.f81) (.node (some Go.Proofs.Tryz.f145) (.node (some Go.Proofs.Tryz.f273) .leaf .leaf) (.node (some Go.Proofs.Tryz.f401) .leaf .leaf)) (.node (some Go.Proofs.Tryz.f209) (.node (some Go.Proofs.Tryz.f337) .leaf .leaf) (.node (some Go.Proofs.Tryz.f465) .leaf .leaf))) (.node (some Go.Proofs.Tryz.f113) (.node (some Go.Proofs.Tryz.f177) (.node (some Go.Proofs.Tryz.f305) .leaf .leaf) (.node (some Go.Proofs.Tryz.f433) .leaf .leaf)) (.node (some Go.Proofs.Tryz.f241) (.node (some Go.Proofs.Tryz.f369) .leaf .leaf) .leaf)))) (.node (some Go.Proofs.Tryz.f25) (.node (some Go.Proofs.Tryz.f41) (.node (some Go.Proofs.Tryz.f73) (.node (some Go.Proofs.Tryz.f137) (.node (some Go.Proofs.Tryz.f265) .leaf .leaf) (.node (some Go.Proofs.Tryz.f393) .leaf .leaf)) (.node (some Go.Proofs.Tryz.f201) (.node (some Go.Proofs.Tryz.f329) .leaf .leaf) (.node (some Go.Proofs.Tryz.f457) .leaf .leaf))) (.node (some Go.Proofs.Tryz.f105) (.node (some Go.Proofs.Tryz.f169) (.node (some Go.Proofs.Tryz.f297) .leaf .leaf) (.node (some Go.Proofs.Tryz.f425) .leaf .leaf)) (.node (some Go.Proofs.Tryz.f233) (.node (some Go.Proofs.Tryz.f361) .leaf .leaf) .leaf))) (.node (some Go.Proofs.Tryz.f57) (.node (some Go.Proofs.Tryz.f89) (.node (some Go.Proofs.Tryz.f153) (.node (some Go.Proofs.Tryz.f281) .leaf .leaf) (.node (some Go.Proofs.Tryz.f409) .leaf .leaf)) (.node (some Go.Proofs.Tryz.f217) (.node (some Go.Proofs.Tryz.f345) .leaf .leaf) .leaf)) (.node (some Go.Proofs.Tryz.f121) (.node (some Go.Proofs.Tryz.f185) (.node (some Go.Proofs.Tryz.f313) .leaf .leaf) (.node (some Go.Proofs.Tryz.f441) .leaf .leaf)) (.node (some Go.Proofs.Tryz.f249) (.node (some Go.Proofs.Tryz.f377) .leaf .leaf) .leaf))))) (.node (some Go.Proofs.Tryz.f13) (.node (some Go.Proofs.Tryz.f21) (.node (some Go.Proofs.Tryz.f37) (.node (some Go.Proofs.Tryz.f69) (.node (some Go.Proofs.Tryz.f133) (.node (some Go.Proofs.Tryz.f261) .leaf .leaf) (.node (some Go.Proofs.Tryz.f389) .leaf .leaf)) (.node (some Go.Proofs.Tryz.f197) (.node (some Go.Proofs.Tryz.f325) .leaf .leaf) (.node (some Go.Proofs.Tryz.f453) .leaf .leaf))) (.node (some Go.Proofs.Tryz.f101) (.node (some Go.Proofs.Tryz.f165) (.node (some Go.Proofs.Tryz.f293) .leaf .leaf) (.node (some Go.Proofs.Tryz.f421) .leaf .leaf)) (.node (some Go.Proofs.Tryz.f229) (.node (some Go.Proofs.Tryz.f357) .leaf .leaf) .leaf))) (.node (some Go.Proofs.Tryz.f53) (.node (some Go.Proofs.Tryz.f85) (.node (some Go.Proofs.Tryz.f149) (.node (some Go.Proofs.Tryz.f277) .leaf .leaf) (.node (some Go.Proofs.Tryz.f405) .leaf .leaf)) (.node (some Go.Proofs.Tryz.f213) (.node (some Go.Proofs.Tryz.f341) .leaf .leaf) (.node (some Go.Proofs.Tryz.f469) .leaf .leaf))) (.node (some Go.Proofs.Tryz.f117) (.node (some Go.Proofs.Tryz.f181) (.node (some Go.Proofs.Tryz.f309) .leaf .leaf) (.node (some Go.Proofs.Tryz.f437) .leaf .leaf)) (.node (some Go.Proofs.Tryz.f245) (.node (some Go.Proofs.Tryz.f373) .leaf .leaf) .leaf)))) (.node (some Go.Proofs.Tryz.f29) (.node (some Go.Proofs.Tryz.f45) (.node (some Go.Proofs.Tryz.f77) (.node (some Go.Proofs.Tryz.f141) (.node (some Go.Proofs.Tryz.f269) .leaf .leaf) (.node (some Go.Proofs.Tryz.f397) .leaf .leaf)) (.node (some Go.Proofs.Tryz.f205) (.node (some Go.Proofs.Tryz.f333) .leaf .leaf) (.node (some Go.Proofs.Tryz.f461) .leaf .leaf))) (.node (some Go.Proofs.Tryz.f109) (.node (some Go.Proofs.Tryz.f173) (.node (some Go.Proofs.Tryz.f301) .leaf .leaf) (.node (some Go.Proofs.Tryz.f429) .leaf .leaf)) (.node (some Go.Proofs.Tryz.f237) (.node (some Go.Proofs.Tryz.f365) .leaf .leaf) .leaf))) (.node (some Go.Proofs.Tryz.f61) (.node (some Go.Proofs.Tryz.f93) (.node (some Go.Proofs.Tryz.f157) (.node (some Go.Proofs.Tryz.f285) .leaf .leaf) (.node (some Go.Proofs.Tryz.f413) .leaf .leaf)) (.node (some Go.Proofs.Tryz.f221) (.node (some Go.Proofs.Tryz.f349) .leaf .leaf) .leaf)) (.node (some Go.Proofs.Tryz.f125) (.node (some Go.Proofs.Tryz.f189) (.node (some Go.Proofs.Tryz.f317) .leaf .leaf) (.node (some Go.Proofs.Tryz.f445) .leaf .leaf)) (.node (some Go.Proofs.Tryz.f253) (.node (some Go.Proofs.Tryz.f381) .leaf .leaf) .leaf))))))) (.node (some Go.Proofs.Tryz.f2) (.node (some Go.Proofs.Tryz.f4) (.node (some Go.Proofs.Tryz.f8) (.node (some Go.Proofs.Tryz.f16) (.node (some Go.Proofs.Tryz.f32) (.node (some Go.Proofs.Tryz.f64) (.node (some Go.Proofs.Tryz.f128) (.node (some Go.Proofs.Tryz.f256) .leaf .leaf) (.node (some Go.Proofs.Tryz.f384) .leaf .leaf)) (.node (some Go.Proofs.Tryz.f192) (.node (some Go.Proofs.Tryz.f320) .leaf .leaf) (.node (some Go.Proofs.Tryz.f448) .leaf .leaf))) (.node (some Go.Proofs.Tryz.f96) (.node (some Go.Proofs.Tryz.f160) (.node (some Go.Proofs.Tryz.f288) .leaf .leaf) (.node (some Go.Proofs.Tryz.f416) .leaf .leaf)) (.node (some Go.Proofs.Tryz.f224) (.node (some Go.Proofs.Tryz.f352) .leaf .leaf) .leaf))) (.node (some Go.Proofs.Tryz.f48) (.node (some Go.Proofs.Tryz.f80) (.node (some Go.Proofs.Tryz.f144) (.node (some Go.Proofs.Tryz.f272) .leaf .leaf) (.node (some Go.Proofs.Tryz.f400) .leaf .leaf)) (.node (some Go.Proofs.Tryz.f208) (.node (some Go.Proofs.Tryz.f336) .leaf .leaf) (.node (some Go.Proofs.Tryz.f464) .leaf .leaf))) (.node (some Go.Proofs.Tryz.f112) (.node (some Go.Proofs.Tryz.f176) (.node (some Go.Proofs.Tryz.f304) .leaf .leaf) (.node (some Go.Proofs.Tryz.f432) .leaf .leaf)) (.node (some Go.Proofs.Tryz.f240) (.node (some Go.Proofs.Tryz.f368) .leaf .leaf) .leaf)))) (.node (some Go.Proofs.Tryz.f24) (.node (some Go.Proofs.Tryz.f40) (.node (some Go.Proofs.Tryz.f72) (.node (some Go.Proofs.Tryz.f136) (.node (some Go.Proofs.Tryz.f264) .leaf .leaf) (.node (some Go.Proofs.Tryz.f392) .leaf .leaf)) (.node (some Go.Proofs.Tryz.f200) (.node (some Go.Proofs.Tryz.f328) .leaf .leaf) (.node (some Go.Proofs.Tryz.f456) .leaf .leaf))) (.node (some Go.Proofs.Tryz.f104) (.node (some Go.Proofs.Tryz.f168) (.node (some Go.Proofs.Tryz.f296) .leaf .leaf) (.node (some Go.Proofs.Tryz.f424) .leaf .leaf)) (.node (some Go.Proofs.Tryz.f232) (.node (some Go.Proofs.Tryz.f360) .leaf .leaf) .leaf))) (.node (some Go.Proofs.Tryz.f56) (.node (some Go.Proofs.Tryz.f88) (.node (some Go.Proofs.Tryz.f152) (.node (some Go.Proofs.Tryz.f280) .leaf .leaf) (.node (some Go.Proofs.Tryz.f408) .leaf .leaf)) (.node (some Go.Proofs.Tryz.f216) (.node (some Go.Proofs.Tryz.f344) .leaf .leaf) (.node (some Go.Proofs.Tryz.f472) .leaf .leaf))) (.node (some Go.Proofs.Tryz.f120) (.node (some Go.Proofs.Tryz.f184) (.node (some Go.Proofs.Tryz.f312) .leaf .leaf) (.node (some Go.Proofs.Tryz.f440) .leaf .leaf)) (.node (some Go.Proofs.Tryz.f248) (.node (some Go.Proofs.Tryz.f376) .leaf .leaf) .leaf))))) (.node (some Go.Proofs.Tryz.f12) (.node (some Go.Proofs.Tryz.f20) (.node (some Go.Proofs.Tryz.f36) (.node (some Go.Proofs.Tryz.f68) (.node (some Go.Proofs.Tryz.f132) (.node (some Go.Proofs.Tryz.f260) .leaf .leaf) (.node (some Go.Proofs.Tryz.f388) .leaf .leaf)) (.node (some Go.Proofs.Tryz.f196) (.node (some Go.Proofs.Tryz.f324) .leaf .leaf) (.node (some Go.Proofs.Tryz.f452) .leaf .leaf))) (.node (some Go.Proofs.Tryz.f100) (.node (some Go.Proofs.Tryz.f164) (.node (some Go.Proofs.Tryz.f292) .leaf .leaf) (.node (some Go.Proofs.Tryz.f420) .leaf .leaf)) (.node (some Go.Proofs.Tryz.f228) (.node (some Go.Proofs.Tryz.f356) .leaf .leaf) .leaf))) (.node (some Go.Proofs.Tryz.f52) (.node (some Go.Proofs.Tryz.f84) (.node (some Go.Proofs.Tryz.f148) (.node (some Go.Proofs.Tryz.f276) .leaf .leaf) (.node (some Go.Proofs.Tryz.f404) .leaf .leaf)) (.node (some Go.Proofs.Tryz.f212) (.node (some Go.Proofs.Tryz.f340) .leaf .leaf) (.node (some Go.Proofs.Tryz.f468) .leaf .leaf))) (.node (some Go.Proofs.Tryz.f116) (.node (some Go.Proofs.Tryz.f180) (.node (some Go.Proofs.Tryz.f308) .leaf .leaf) (.node (some Go.Proofs.Tryz.f436) .leaf .leaf)) (.node (some Go.Proofs.Tryz.f244) (.node (some Go.Proofs.Tryz.f372) .leaf .leaf) .leaf)))) (.node (some Go.Proofs.Tryz.f28) (.node (some Go.Proofs.Tryz.f44) (.node (some Go.Proofs.Tryz.f76) (.node (some Go.Proofs.Tryz.f140) (.node (some Go.Proofs.Tryz.f268) .leaf .leaf) (.node (some Go.Proofs.Tryz.f396) .leaf .leaf)) (.node (some Go.Proofs.Tryz.f204) (.node (some Go.Proofs.Tryz.f332) .leaf .leaf) (.node (some Go.Proofs.Tryz.f460) .leaf .leaf))) (.node (some Go.Proofs.Tryz.f108) (.node (some Go.Proofs.Tryz.f172) (.node (some Go.Proofs.Tryz.f300) .leaf .leaf) (.node (some Go.Proofs.Tryz.f428) .leaf .leaf)) (.node (some Go.Proofs.Tryz.f236) (.node (some Go.Proofs.Tryz.f364) .leaf .leaf) .leaf))) (.node (some Go.Proofs.Tryz.f60) (.node (some Go.Proofs.Tryz.f92) (.node (some Go.Proofs.Tryz.f156) (.node (some Go.Proofs.Tryz.f284) .leaf .leaf) (.node (some Go.Proofs.Tryz.f412) .leaf .leaf)) (.node (some Go.Proofs.Tryz.f220) (.node (some Go.Proofs.Tryz.f348) .leaf .leaf) (.node (some Go.Proofs.Tryz.f476) .leaf .leaf))) (.node (some Go.Proofs.Tryz.f124) (.node (some Go.Proofs.Tryz.f188) (.node (some Go.Proofs.Tryz.f316) .leaf .leaf) (.node (some Go.Proofs.Tryz.f444) .leaf .leaf)) (.node (some Go.Proofs.Tryz.f252) (.node (some Go.Proofs.Tryz.f380) .leaf .leaf) .leaf)))))) (.node (some Go.Proofs.Tryz.f6) (.node (some Go.Proofs.Tryz.f10) (.node (some Go.Proofs.Tryz.f18) (.node (some Go.Proofs.Tryz.f34) (.node (some Go.Proofs.Tryz.f66) (.node (some Go.Proofs.Tryz.f130) (.node (some Go.Proofs.Tryz.f258) .leaf .leaf) (.node (some Go.Proofs.Tryz.f386) .leaf .leaf)) (.node (some Go.Proofs.Tryz.f194) (.node (some Go.Proofs.Tryz.f322) .leaf .leaf) (.node (some Go.Proofs.Tryz.f450) .leaf .leaf))) (.node (some Go.Proofs.Tryz.f98) (.node (some Go.Proofs.Tryz.f162) (.node (some Go.Proofs.Tryz.f290) .leaf .leaf) (.node (some Go.Proofs.Tryz.f418) .leaf .leaf)) (.node (some Go.Proofs.Tryz.f226) (.node (some Go.Proofs.Tryz.f354) .leaf .leaf) .leaf))) (.node (some Go.Proofs.Tryz.f50) (.node (some Go.Proofs.Tryz.f82) (.node (some Go.Proofs.Tryz.f146) (.node (some Go.Proofs.Tryz.f274) .leaf .leaf) (.node (some Go.Proofs.Tryz.f402) .leaf .leaf)) (.node (some Go.Proofs.Tryz.f210) (.node (some Go.Proofs.Tryz.f338) .leaf .leaf) (.node (some Go.Proofs.Tryz.f466) .leaf .leaf))) (.node (some Go.Proofs.Tryz.f114) (.node (some Go.Proofs.Tryz.f178) (.node (some Go.Proofs.Tryz.f306) .leaf .leaf) (.node (some Go.Proofs.Tryz.f434) .leaf .leaf)) (.node (some Go.Proofs.Tryz.f242) (.node (some Go.Proofs.Tryz.f370) .leaf .leaf) .leaf)))) (.node (some Go.Proofs.Tryz.f26) (.node (some Go.Proofs.Tryz.f42) (.node (some Go.Proofs.Tryz.f74) (.node (some Go.Proofs.Tryz.f138) (.node (some Go.Proofs.Tryz.f266) .leaf .leaf) (.node (some Go.Proofs.Tryz.f394) .leaf .leaf)) (.node (some Go.Proofs.Tryz.f202) (.node (some Go.Proofs.Tryz.f330) .leaf .leaf) (.node (some Go.Proofs.Tryz.f458) .leaf .leaf))) (.node (some Go.Proofs.Tryz.f106) (.node (some Go.Proofs.Tryz.f170) (.node (some Go.Proofs.Tryz.f298) .leaf .leaf) (.node (some Go.Proofs.Tryz.f426) .leaf .leaf)) (.node (some Go.Proofs.Tryz.f234) (.node (some Go.Proofs.Tryz.f362) .leaf .leaf) .leaf))) (.node (some Go.Proofs.Tryz.f58) (.node (some Go.Proofs.Tryz.f90) (.node (some Go.Proofs.Tryz.f154) (.node (some Go.Proofs.Tryz.f282) .leaf .leaf) (.node (some Go.Proofs.Tryz.f410) .leaf .leaf)) (.node (some Go.Proofs.Tryz.f218) (.node (some Go.Proofs.Tryz.f346) .leaf .leaf) (.node (some Go.Proofs.Tryz.f474) .leaf .leaf))) (.node (some Go.Proofs.Tryz.f122) (.node (some Go.Proofs.Tryz.f186) (.node (some Go.Proofs.Tryz.f314) .leaf .leaf) (.node (some Go.Proofs.Tryz.f442) .leaf .leaf)) (.node (some Go.Proofs.Tryz.f250) (.node (some Go.Proofs.Tryz.f378) .leaf .leaf) .leaf))))) (.node (some Go.Proofs.Tryz.f14) (.node (some Go.Proofs.Tryz.f22) (.node (some Go.Proofs.Tryz.f38) (.node (some Go.Proofs.Tryz.f70) (.node (some Go.Proofs.Tryz.f134) (.node (some Go.Proofs.Tryz.f262) .leaf .leaf) (.node (some Go.Proofs.Tryz.f390) .leaf .leaf)) (.node (some Go.Proofs.Tryz.f198) (.node (some Go.Proofs.Tryz.f326) .leaf .leaf) (.node (some Go.Proofs.Tryz.f454) .leaf .leaf))) (.node (some Go.Proofs.Tryz.f102) (.node (some Go.Proofs.Tryz.f166) (.node (some Go.Proofs.Tryz.f294) .leaf .leaf) (.node (some Go.Proofs.Tryz.f422) .leaf .leaf)) (.node (some Go.Proofs.Tryz.f230) (.node (some Go.Proofs.Tryz.f358) .leaf .leaf) .leaf))) (.node (some Go.Proofs.Tryz.f54) (.node (some Go.Proofs.Tryz.f86) (.node (some Go.Proofs.Tryz.f150) (.node (some Go.Proofs.Tryz.f278) .leaf .leaf) (.node (some Go.Proofs.Tryz.f406) .leaf .leaf)) (.node (some Go.Proofs.Tryz.f214) (.node (some Go.Proofs.Tryz.f342) .leaf .leaf) (.node (some Go.Proofs.Tryz.f470) .leaf .leaf))) (.node (some Go.Proofs.Tryz.f118) (.node (some Go.Proofs.Tryz.f182) (.node (some Go.Proofs.Tryz.f310) .leaf .leaf) (.node (some Go.Proofs.Tryz.f438) .leaf .leaf)) (.node (some Go.Proofs.Tryz.f246) (.node (some Go.Proofs.Tryz.f374) .leaf .leaf) .leaf)))) (.node (some Go.Proofs.Tryz.f30) (.node (some Go.Proofs.Tryz.f46) (.node (some Go.Proofs.Tryz.f78) (.node (some Go.Proofs.Tryz.f142) (.node (some Go.Proofs.Tryz.f270) .leaf .leaf) (.node (some Go.Proofs.Tryz.f398) .leaf .leaf)) (.node (some Go.Proofs.Tryz.f206) (.node (some Go.Proofs.Tryz.f334) .leaf .leaf) (.node (some Go.Proofs.Tryz.f462) .leaf .leaf))) (.node (some Go.Proofs.Tryz.f110) (.node (some Go.Proofs.Tryz.f174) (.node (some Go.Proofs.Tryz.f302) .leaf .leaf) (.node (some Go.Proofs.Tryz.f430) .leaf .leaf)) (.node (some Go.Proofs.Tryz.f238) (.node (some Go.Proofs.Tryz.f366) .leaf .leaf) .leaf))) (.node (some Go.Proofs.Tryz.f62) (.node (some Go.Proofs.Tryz.f94) (.node (some Go.Proofs.Tryz.f158) (.node (some Go.Proofs.Tryz.f286) .leaf .leaf) (.node (some Go.Proofs.Tryz.f414) .leaf .leaf)) (.node (some Go.Proofs.Tryz.f222) (.node (some Go.Proofs.Tryz.f350) .leaf .leaf) .leaf)) (.node (some Go.Proofs.Tryz.f126) (.node (some Go.Proofs.Tryz.f190) (.node (some Go.Proofs.Tryz.f318) .leaf .leaf) (.node (some Go.Proofs.Tryz.f446) .leaf .leaf)) (.node (some Go.Proofs.Tryz.f254) (.node (some Go.Proofs.Tryz.f382) .leaf .leaf) .leaf))))))))
theorem ft_ok : Fok Go.Proofs.Tryz.prog ft := fok_of (⟨trivial, ⟨trivial, ⟨fo3, ⟨fo7, ⟨fo15, ⟨fo31, ⟨fo63, ⟨fo127, ⟨fo255, trivial, trivial⟩, ⟨fo383, trivial, trivial⟩⟩, ⟨fo191, ⟨fo319, trivial, trivial⟩, ⟨fo447, trivial, trivial⟩⟩⟩, ⟨fo95, ⟨fo159, ⟨fo287, trivial, trivial⟩, ⟨fo415, trivial, trivial⟩⟩, ⟨fo223, ⟨fo351, trivial, trivial⟩, trivial⟩⟩⟩, ⟨fo47, ⟨fo79, ⟨fo143, ⟨fo271, trivial, trivial⟩, ⟨fo399, trivial, trivial⟩⟩, ⟨fo207, ⟨fo335, trivial, trivial⟩, ⟨fo463, trivial, trivial⟩⟩⟩, ⟨fo111, ⟨fo175, ⟨fo303, trivial, trivial⟩, ⟨fo431, trivial, trivial⟩⟩, ⟨fo239, ⟨fo367, trivial, trivial⟩, trivial⟩⟩⟩⟩, ⟨fo23, ⟨fo39, ⟨fo71, ⟨fo135, ⟨fo263, trivial, trivial⟩, ⟨fo391, trivial, trivial⟩⟩, ⟨fo199, ⟨fo327, trivial, trivial⟩, ⟨fo455, trivial, trivial⟩⟩⟩, ⟨fo103, ⟨fo167, ⟨fo295, trivial, trivial⟩, ⟨fo423, trivial, trivial⟩⟩, ⟨fo231, ⟨fo359, trivial, trivial⟩, trivial⟩⟩⟩, ⟨fo55, ⟨fo87, ⟨fo151, ⟨fo279, trivial, trivial⟩, ⟨fo407, trivial, trivial⟩⟩, ⟨fo215, ⟨fo343, trivial, trivial⟩, ⟨fo471, trivial, trivial⟩⟩⟩, ⟨fo119, ⟨fo183, ⟨fo311, trivial, trivial⟩, ⟨fo439, trivial, trivial⟩⟩, ⟨fo247, ⟨fo375, trivial, trivial⟩, trivial⟩⟩⟩⟩⟩, ⟨fo11, ⟨fo19, ⟨fo35, ⟨fo67, ⟨fo131, ⟨fo259, trivial, trivial⟩, ⟨fo387, trivial, trivial⟩⟩, ⟨fo195, ⟨fo323, trivial, trivial⟩, ⟨fo451, trivial, trivial⟩⟩⟩, ⟨fo99, ⟨fo163, ⟨fo291, trivial, trivial⟩, ⟨fo419, trivial, trivial⟩⟩, ⟨fo227, ⟨fo355, trivial, trivial⟩, trivial⟩⟩⟩, ⟨fo51, ⟨fo83, ⟨fo147, ⟨fo275, trivial, trivial⟩, ⟨fo403, trivial, trivial⟩⟩, ⟨fo211, ⟨fo339, trivial, trivial⟩, ⟨fo467, trivial, trivial⟩⟩⟩, ⟨fo115, ⟨fo179, ⟨fo307, trivial, trivial⟩, ⟨fo435, trivial, trivial⟩⟩, ⟨fo243, ⟨fo371, trivial, trivial⟩, trivial⟩⟩⟩⟩, ⟨fo27, ⟨fo43, ⟨fo75, ⟨fo139, ⟨fo267, trivial, trivial⟩, ⟨fo395, trivial, trivial⟩⟩, ⟨fo203, ⟨fo331, trivial, trivial⟩, ⟨fo459, trivial, trivial⟩⟩⟩, ⟨fo107, ⟨fo171, ⟨fo299, trivial, trivial⟩, ⟨fo427, trivial, trivial⟩⟩, ⟨fo235, ⟨fo363, trivial, trivial⟩, trivial⟩⟩⟩, ⟨fo59, ⟨fo91, ⟨fo155, ⟨fo283, trivial, trivial⟩, ⟨fo411, trivial, trivial⟩⟩, ⟨fo219, ⟨fo347, trivial, trivial⟩, ⟨fo475, trivial, trivial⟩⟩⟩, ⟨fo123, ⟨fo187, ⟨fo315, trivial, trivial⟩, ⟨fo443, trivial, trivial⟩⟩, ⟨fo251, ⟨fo379, trivial, trivial⟩, trivial⟩⟩⟩⟩⟩⟩, ⟨fo5, ⟨fo9, ⟨fo17, ⟨fo33, ⟨fo65, ⟨fo129, ⟨fo257, trivial, trivial⟩, ⟨fo385, trivial, trivial⟩⟩, ⟨fo193, ⟨fo321, trivial, trivial⟩, ⟨fo449, trivial, trivial⟩⟩⟩, ⟨fo97, ⟨fo161, ⟨fo289, trivial, trivial⟩, ⟨fo417, trivial, trivial⟩⟩, ⟨fo225, ⟨fo353, trivial, trivial⟩, trivial⟩⟩⟩, ⟨fo49, ⟨fo81, ⟨fo145, ⟨fo273, trivial, trivial⟩, ⟨fo401, trivial, trivial⟩⟩, ⟨fo209, ⟨fo337, trivial, trivial⟩, ⟨fo465, trivial, trivial⟩⟩⟩, ⟨fo113, ⟨fo177, ⟨fo305, trivial, trivial⟩, ⟨fo433, trivial, trivial⟩⟩, ⟨fo241, ⟨fo369, trivial, trivial⟩, trivial⟩⟩⟩⟩, ⟨fo25, ⟨fo41, ⟨fo73, ⟨fo137, ⟨fo265, trivial, trivial⟩, ⟨fo393, trivial, trivial⟩⟩, ⟨fo201, ⟨fo329, trivial, trivial⟩, ⟨fo457, trivial, trivial⟩⟩⟩, ⟨fo105, ⟨fo169, ⟨fo297, trivial, trivial⟩, ⟨fo425, trivial, trivial⟩⟩, ⟨fo233, ⟨fo361, trivial, trivial⟩, trivial⟩⟩⟩, ⟨fo57, ⟨fo89, ⟨fo153, ⟨fo281, trivial, trivial⟩, ⟨fo409, trivial, trivial⟩⟩, ⟨fo217, ⟨fo345, trivial, trivial⟩, trivial⟩⟩, ⟨fo121, ⟨fo185, ⟨fo313, trivial, trivial⟩, ⟨fo441, trivial, trivial⟩⟩, ⟨fo249, ⟨fo377, trivial, trivial⟩, trivial⟩⟩⟩⟩⟩, ⟨fo13, ⟨fo21, ⟨fo37, ⟨fo69, ⟨fo133, ⟨fo261, trivial, trivial⟩, ⟨fo389, trivial, trivial⟩⟩, ⟨fo197, ⟨fo325, trivial, trivial⟩, ⟨fo453, trivial, trivial⟩⟩⟩, ⟨fo101, ⟨fo165, ⟨fo293, trivial, trivial⟩, ⟨fo421, trivial, trivial⟩⟩, ⟨fo229, ⟨fo357, trivial, trivial⟩, trivial⟩⟩⟩, ⟨fo53, ⟨fo85, ⟨fo149, ⟨fo277, trivial, trivial⟩, ⟨fo405, trivial, trivial⟩⟩, ⟨fo213, ⟨fo341, trivial, trivial⟩, ⟨fo469, trivial, trivial⟩⟩⟩, ⟨fo117, ⟨fo181, ⟨fo309, trivial, trivial⟩, ⟨fo437, trivial, trivial⟩⟩, ⟨fo245, ⟨fo373, trivial, trivial⟩, trivial⟩⟩⟩⟩, ⟨fo29, ⟨fo45, ⟨fo77, ⟨fo141, ⟨fo269, trivial, trivial⟩, ⟨fo397, trivial, trivial⟩⟩, ⟨fo205, ⟨fo333, trivial, trivial⟩, ⟨fo461, trivial, trivial⟩⟩⟩, ⟨fo109, ⟨fo173, ⟨fo301, trivial, trivial⟩, ⟨fo429, trivial, trivial⟩⟩, ⟨fo237, ⟨fo365, trivial, trivial⟩, trivial⟩⟩⟩, ⟨fo61, ⟨fo93, ⟨fo157, ⟨fo285, trivial, trivial⟩, ⟨fo413, trivial, trivial⟩⟩, ⟨fo221, ⟨fo349, trivial, trivial⟩, trivial⟩⟩, ⟨fo125, ⟨fo189, ⟨fo317, trivial, trivial⟩, ⟨fo445, trivial, trivial⟩⟩, ⟨fo253, ⟨fo381, trivial, trivial⟩, trivial⟩⟩⟩⟩⟩⟩⟩, ⟨fo2, ⟨fo4, ⟨fo8, ⟨fo16, ⟨fo32, ⟨fo64, ⟨fo128, ⟨fo256, trivial, trivial⟩, ⟨fo384, trivial, trivial⟩⟩, ⟨fo192, ⟨fo320, trivial, trivial⟩, ⟨fo448, trivial, trivial⟩⟩⟩, ⟨fo96, ⟨fo160, ⟨fo288, trivial, trivial⟩, ⟨fo416, trivial, trivial⟩⟩, ⟨fo224, ⟨fo352, trivial, trivial⟩, trivial⟩⟩⟩, ⟨fo48, ⟨fo80, ⟨fo144, ⟨fo272, trivial, trivial⟩, ⟨fo400, trivial, trivial⟩⟩, ⟨fo208, ⟨fo336, trivial, trivial⟩, ⟨fo464, trivial, trivial⟩⟩⟩, ⟨fo112, ⟨fo176, ⟨fo304, trivial, trivial⟩, ⟨fo432, trivial, trivial⟩⟩, ⟨fo240, ⟨fo368, trivial, trivial⟩, trivial⟩⟩⟩⟩, ⟨fo24, ⟨fo40, ⟨fo72, ⟨fo136, ⟨fo264, trivial, trivial⟩, ⟨fo392, trivial, trivial⟩⟩, ⟨fo200, ⟨fo328, trivial, trivial⟩, ⟨fo456, trivial, trivial⟩⟩⟩, ⟨fo104, ⟨fo168, ⟨fo296, trivial, trivial⟩, ⟨fo424, trivial, trivial⟩⟩, ⟨fo232, ⟨fo360, trivial, trivial⟩, trivial⟩⟩⟩, ⟨fo56, ⟨fo88, ⟨fo152, ⟨fo280, trivial, trivial⟩, ⟨fo408, trivial, trivial⟩⟩, ⟨fo216, ⟨fo344, trivial, trivial⟩, ⟨fo472, trivial, trivial⟩⟩⟩, ⟨fo120, ⟨fo184, ⟨fo312, trivial, trivial⟩, ⟨fo440, trivial, trivial⟩⟩, ⟨fo248, ⟨fo376, trivial, trivial⟩, trivial⟩⟩⟩⟩⟩, ⟨fo12, ⟨fo20, ⟨fo36, ⟨fo68, ⟨fo132, ⟨fo260, trivial, trivial⟩, ⟨fo388, trivial, trivial⟩⟩, ⟨fo196, ⟨fo324, trivial, trivial⟩, ⟨fo452, trivial, trivial⟩⟩⟩, ⟨fo100, ⟨fo164, ⟨fo292, trivial, trivial⟩, ⟨fo420, trivial, trivial⟩⟩, ⟨fo228, ⟨fo356, trivial, trivial⟩, trivial⟩⟩⟩, ⟨fo52, ⟨fo84, ⟨fo148, ⟨fo276, trivial, trivial⟩, ⟨fo404, trivial, trivial⟩⟩, ⟨fo212, ⟨fo340, trivial, trivial⟩, ⟨fo468, trivial, trivial⟩⟩⟩, ⟨fo116, ⟨fo180, ⟨fo308, trivial, trivial⟩, ⟨fo436, trivial, trivial⟩⟩, ⟨fo244, ⟨fo372, trivial, trivial⟩, trivial⟩⟩⟩⟩, ⟨fo28, ⟨fo44, ⟨fo76, ⟨fo140, ⟨fo268, trivial, trivial⟩, ⟨fo396, trivial, trivial⟩⟩, ⟨fo204, ⟨fo332, trivial, trivial⟩, ⟨fo460, trivial, trivial⟩⟩⟩, ⟨fo108, ⟨fo172, ⟨fo300, trivial, trivial⟩, ⟨fo428, trivial, trivial⟩⟩, ⟨fo236, ⟨fo364, trivial, trivial⟩, trivial⟩⟩⟩, ⟨fo60, ⟨fo92, ⟨fo156, ⟨fo284, trivial, trivial⟩, ⟨fo412, trivial, trivial⟩⟩, ⟨fo220, ⟨fo348, trivial, trivial⟩, ⟨fo476, trivial, trivial⟩⟩⟩, ⟨fo124, ⟨fo188, ⟨fo316, trivial, trivial⟩, ⟨fo444, trivial, trivial⟩⟩, ⟨fo252, ⟨fo380, trivial, trivial⟩, trivial⟩⟩⟩⟩⟩⟩, ⟨fo6, ⟨fo10, ⟨fo18, ⟨fo34, ⟨fo66, ⟨fo130, ⟨fo258, trivial, trivial⟩, ⟨fo386, trivial, trivial⟩⟩, ⟨fo194, ⟨fo322, trivial, trivial⟩, ⟨fo450, trivial, trivial⟩⟩⟩, ⟨fo98, ⟨fo162, ⟨fo290, trivial, trivial⟩, ⟨fo418, trivial, trivial⟩⟩, ⟨fo226, ⟨fo354, trivial, trivial⟩, trivial⟩⟩⟩, ⟨fo50, ⟨fo82, ⟨fo146, ⟨fo274, trivial, trivial⟩, ⟨fo402, trivial, trivial⟩⟩, ⟨fo210, ⟨fo338, trivial, trivial⟩, ⟨fo466, trivial, trivial⟩⟩⟩, ⟨fo114, ⟨fo178, ⟨fo306, trivial, trivial⟩, ⟨fo434, trivial, trivial⟩⟩, ⟨fo242, ⟨fo370, trivial, trivial⟩, trivial⟩⟩⟩⟩, ⟨fo26, ⟨fo42, ⟨fo74, ⟨fo138, ⟨fo266, trivial, trivial⟩, ⟨fo394, trivial, trivial⟩⟩, ⟨fo202, ⟨fo330, trivial, trivial⟩, ⟨fo458, trivial, trivial⟩⟩⟩, ⟨fo106, ⟨fo170, ⟨fo298, trivial, trivial⟩, ⟨fo426, trivial, trivial⟩⟩, ⟨fo234, ⟨fo362, trivial, trivial⟩, trivial⟩⟩⟩, ⟨fo58, ⟨fo90, ⟨fo154, ⟨fo282, trivial, trivial⟩, ⟨fo410, trivial, trivial⟩⟩, ⟨fo218, ⟨fo346, trivial, trivial⟩, ⟨fo474, trivial, trivial⟩⟩⟩, ⟨fo122, ⟨fo186, ⟨fo314, trivial, trivial⟩, ⟨fo442, trivial, trivial⟩⟩, ⟨fo250, ⟨fo378, trivial, trivial⟩, trivial⟩⟩⟩⟩⟩, ⟨fo14, ⟨fo22, ⟨fo38, ⟨fo70, ⟨fo134, ⟨fo262, trivial, trivial⟩, ⟨fo390, trivial, trivial⟩⟩, ⟨fo198, ⟨fo326, trivial, trivial⟩, ⟨fo454, trivial, trivial⟩⟩⟩, ⟨fo102, ⟨fo166, ⟨fo294, trivial, trivial⟩, ⟨fo422, trivial, trivial⟩⟩, ⟨fo230, ⟨fo358, trivial, trivial⟩, trivial⟩⟩⟩, ⟨fo54, ⟨fo86, ⟨fo150, ⟨fo278, trivial, trivial⟩, ⟨fo406, trivial, trivial⟩⟩, ⟨fo214, ⟨fo342, trivial, trivial⟩, ⟨fo470, trivial, trivial⟩⟩⟩, ⟨fo118, ⟨fo182, ⟨fo310, trivial, trivial⟩, ⟨fo438, trivial, trivial⟩⟩, ⟨fo246, ⟨fo374, trivial, trivial⟩, trivial⟩⟩⟩⟩, ⟨fo30, ⟨fo46, ⟨fo78, ⟨fo142, ⟨fo270, trivial, trivial⟩, ⟨fo398, trivial, trivial⟩⟩, ⟨fo206, ⟨fo334, trivial, trivial⟩, ⟨fo462, trivial, trivial⟩⟩⟩, ⟨fo110, ⟨fo174, ⟨fo302, trivial, trivial⟩, ⟨fo430, trivial, trivial⟩⟩, ⟨fo238, ⟨fo366, trivial, trivial⟩, trivial⟩⟩⟩, ⟨fo62, ⟨fo94, ⟨fo158, ⟨fo286, trivial, trivial⟩, ⟨fo414, trivial, trivial⟩⟩, ⟨fo222, ⟨fo350, trivial, trivial⟩, trivial⟩⟩, ⟨fo126, ⟨fo190, ⟨fo318, trivial, trivial⟩, ⟨fo446, trivial, trivial⟩⟩, ⟨fo254, ⟨fo382, trivial, trivial⟩, trivial⟩⟩⟩⟩⟩⟩⟩⟩)
end Go.Rn
end
section
namespace Go.Rn
open Go.RowKit
open Go.Vm (enters)
set_option maxRecDepth 1000000
def sumTab : V := .agg [.sc (.int .u32 0), .sc (.int .u32 1996959894), .sc (.int .u32 3993919788), .sc (.int .u32 2567524794), .sc (.int .u32 124634137), .sc (.int .u32 1886057615), .sc (.int .u32 3915621685), .sc (.int .u32 2657392035), .sc (.int .u32 249268274), .sc (.int .u32 2044508324), .sc (.int .u32 3772115230), .sc (.int .u32 2547177864), .sc (.int .u32 162941995), .sc (.int .u32 2125561021), .sc (.int .u32 3887607047), .sc (.int .u32 2428444049), .sc (.int .u32 498536548), .sc (.int .u32 1789927666), .sc (.int .u32 4089016648), .sc (.int .u32 2227061214), .sc (.int .u32 450548861), .sc (.int .u32 1843258603), .sc (.int .u32 4107580753), .sc (.int .u32 2211677639), .sc (.int .u32 325883990), .sc (.int .u32 1684777152), .sc (.int .u32 4251122042), .sc (.int .u32 2321926636), .sc (.int .u32 335633487), .sc (.int .u32 1661365465), .sc (.int .u32 4195302755), .sc (.int .u32 2366115317), .sc (.int .u32 997073096), .sc (.int .u32 1281953886), .sc (.int .u32 3579855332), .sc (.int .u32 2724688242), .sc (.int .u32 1006888145), .sc (.int .u32 1258607687), .sc (.int .u32 3524101629), .sc (.int .u32 2768942443), .sc (.int .u32 901097722), .sc (.int .u32 1119000684), .sc (.int .u32 3686517206), .sc (.int .u32 2898065728), .sc (.int .u32 853044451), .sc (.int .u32 1172266101), .sc (.int .u32 3705015759), .sc (.int .u32 2882616665), .sc (.int .u32 651767980), .sc (.int .u32 1373503546), .sc (.int .u32 3369554304), .sc (.int .u32 3218104598), .sc (.int .u32 565507253), .sc (.int .u32 1454621731), .sc (.int .u32 3485111705), .sc (.int .u32 3099436303), .sc (.int .u32 671266974), .sc (.int .u32 1594198024), .sc (.int .u32 3322730930), .sc (.int .u32 2970347812), .sc (.int .u32 795835527), .sc (.int .u32 1483230225), .sc (.int .u32 3244367275), .sc (.int .u32 3060149565), .sc (.int .u32 1994146192), .sc (.int .u32 31158534), .sc (.int .u32 2563907772), .sc (.int .u32 4023717930), .sc (.int .u32 1907459465), .sc (.int .u32 112637215), .sc (.int .u32 2680153253), .sc (.int .u32 3904427059), .sc (.int .u32 2013776290), .sc (.int .u32 251722036), .sc (.int .u32 2517215374), .sc (.int .u32 3775830040), .sc (.int .u32 2137656763), .sc (.int .u32 141376813), .sc (.int .u32 2439277719), .sc (.int .u32 3865271297), .sc (.int .u32 1802195444), .sc (.int .u32 476864866), .sc (.int .u32 2238001368), .sc (.int .u32 4066508878), .sc (.int .u32 1812370925), .sc (.int .u32 453092731), .sc (.int .u32 2181625025), .sc (.int .u32 4111451223), .sc (.int .u32 1706088902), .sc (.int .u32 314042704), .sc (.int .u32 2344532202), .sc (.int .u32 4240017532), .sc (.int .u32 1658658271), .sc (.int .u32 366619977), .sc (.int .u32 2362670323), .sc (.int .u32 4224994405), .sc (.int .u32 1303535960), .sc (.int .u32 984961486), .sc (.int .u32 2747007092), .sc (.int .u32 3569037538), .sc (.int .u32 1256170817), .sc (.int .u32 1037604311), .sc (.int .u32 2765210733), .sc (.int .u32 3554079995), .sc (.int .u32 1131014506), .sc (.int .u32 879679996), .sc (.int .u32 2909243462), .sc (.int .u32 3663771856), .sc (.int .u32 1141124467), .sc (.int .u32 855842277), .sc (.int .u32 2852801631), .sc (.int .u32 3708648649), .sc (.int .u32 1342533948), .sc (.int .u32 654459306), .sc (.int .u32 3188396048), .sc (.int .u32 3373015174), .sc (.int .u32 1466479909), .sc (.int .u32 544179635), .sc (.int .u32 3110523913), .sc (.int .u32 3462522015), .sc (.int .u32 1591671054), .sc (.int .u32 702138776), .sc (.int .u32 2966460450), .sc (.int .u32 3352799412), .sc (.int .u32 1504918807), .sc (.int .u32 783551873), .sc (.int .u32 3082640443), .sc (.int .u32 3233442989), .sc (.int .u32 3988292384), .sc (.int .u32 2596254646), .sc (.int .u32 62317068), .sc (.int .u32 1957810842), .sc (.int .u32 3939845945), .sc (.int .u32 2647816111), .sc (.int .u32 81470997), .sc (.int .u32 1943803523), .sc (.int .u32 3814918930), .sc (.int .u32 2489596804), .sc (.int .u32 225274430), .sc (.int .u32 2053790376), .sc (.int .u32 3826175755), .sc (.int .u32 2466906013), .sc (.int .u32 167816743), .sc (.int .u32 2097651377), .sc (.int .u32 4027552580), .sc (.int .u32 2265490386), .sc (.int .u32 503444072), .sc (.int .u32 1762050814), .sc (.int .u32 4150417245), .sc (.int .u32 2154129355), .sc (.int .u32 426522225), .sc (.int .u32 1852507879), .sc (.int .u32 4275313526), .sc (.int .u32 2312317920), .sc (.int .u32 282753626), .sc (.int .u32 1742555852), .sc (.int .u32 4189708143), .sc (.int .u32 2394877945), .sc (.int .u32 397917763), .sc (.int .u32 1622183637), .sc (.int .u32 3604390888), .sc (.int .u32 2714866558), .sc (.int .u32 953729732), .sc (.int .u32 1340076626), .sc (.int .u32 3518719985), .sc (.int .u32 2797360999), .sc (.int .u32 1068828381), .sc (.int .u32 1219638859), .sc (.int .u32 3624741850), .sc (.int .u32 2936675148), .sc (.int .u32 906185462), .sc (.int .u32 1090812512), .sc (.int .u32 3747672003), .sc (.int .u32 2825379669), .sc (.int .u32 829329135), .sc (.int .u32 1181335161), .sc (.int .u32 3412177804), .sc (.int .u32 3160834842), .sc (.int .u32 628085408), .sc (.int .u32 1382605366), .sc (.int .u32 3423369109), .sc (.int .u32 3138078467), .sc (.int .u32 570562233), .sc (.int .u32 1426400815), .sc (.int .u32 3317316542), .sc (.int .u32 2998733608), .sc (.int .u32 733239954), .sc (.int .u32 1555261956), .sc (.int .u32 3268935591), .sc (.int .u32 3050360625), .sc (.int .u32 752459403), .sc (.int .u32 1541320221), .sc (.int .u32 2607071920), .sc (.int .u32 3965973030), .sc (.int .u32 1969922972), .sc (.int .u32 40735498), .sc (.int .u32 2617837225), .sc (.int .u32 3943577151), .sc (.int .u32 1913087877), .sc (.int .u32 83908371), .sc (.int .u32 2512341634), .sc (.int .u32 3803740692), .sc (.int .u32 2075208622), .sc (.int .u32 213261112), .sc (.int .u32 2463272603), .sc (.int .u32 3855990285), .sc (.int .u32 2094854071), .sc (.int .u32 198958881), .sc (.int .u32 2262029012), .sc (.int .u32 4057260610), .sc (.int .u32 1759359992), .sc (.int .u32 534414190), .sc (.int .u32 2176718541), .sc (.int .u32 4139329115), .sc (.int .u32 1873836001), .sc (.int .u32 414664567), .sc (.int .u32 2282248934), .sc (.int .u32 4279200368), .sc (.int .u32 1711684554), .sc (.int .u32 285281116), .sc (.int .u32 2405801727), .sc (.int .u32 4167216745), .sc (.int .u32 1634467795), .sc (.int .u32 376229701), .sc (.int .u32 2685067896), .sc (.int .u32 3608007406), .sc (.int .u32 1308918612), .sc (.int .u32 956543938), .sc (.int .u32 2808555105), .sc (.int .u32 3495958263), .sc (.int .u32 1231636301), .sc (.int .u32 1047427035), .sc (.int .u32 2932959818), .sc (.int .u32 3654703836), .sc (.int .u32 1088359270), .sc (.int .u32 936918000), .sc (.int .u32 2847714899), .sc (.int .u32 3736837829), .sc (.int .u32 1202900863), .sc (.int .u32 817233897), .sc (.int .u32 3183342108), .sc (.int .u32 3401237130), .sc (.int .u32 1404277552), .sc (.int .u32 615818150), .sc (.int .u32 3134207493), .sc (.int .u32 3453421203), .sc (.int .u32 1423857449), .sc (.int .u32 601450431), .sc (.int .u32 3009837614), .sc (.int .u32 3294710456), .sc (.int .u32 1567103746), .sc (.int .u32 711928724), .sc (.int .u32 3020668471), .sc (.int .u32 3272380065), .sc (.int .u32 1510334235), .sc (.int .u32 755167117)]
def sumVal : Value := .agg #[.int .u32 0, .int .u32 1996959894, .int .u32 3993919788, .int .u32 2567524794, .int .u32 124634137, .int .u32 1886057615, .int .u32 3915621685, .int .u32 2657392035, .int .u32 249268274, .int .u32 2044508324, .int .u32 3772115230, .int .u32 2547177864, .int .u32 162941995, .int .u32 2125561021, .int .u32 3887607047, .int .u32 2428444049, .int .u32 498536548, .int .u32 1789927666, .int .u32 4089016648, .int .u32 2227061214, .int .u32 450548861, .int .u32 1843258603, .int .u32 4107580753, .int .u32 2211677639, .int .u32 325883990, .int .u32 1684777152, .int .u32 4251122042, .int .u32 2321926636, .int .u32 335633487, .int .u32 1661365465, .int .u32 4195302755, .int .u32 2366115317, .int .u32 997073096, .int .u32 1281953886, .int .u32 3579855332, .int .u32 2724688242, .int .u32 1006888145, .int .u32 1258607687, .int .u32 3524101629, .int .u32 2768942443, .int .u32 901097722, .int .u32 1119000684, .int .u32 3686517206, .int .u32 2898065728, .int .u32 853044451, .int .u32 1172266101, .int .u32 3705015759, .int .u32 2882616665, .int .u32 651767980, .int .u32 1373503546, .int .u32 3369554304, .int .u32 3218104598, .int .u32 565507253, .int .u32 1454621731, .int .u32 3485111705, .int .u32 3099436303, .int .u32 671266974, .int .u32 1594198024, .int .u32 3322730930, .int .u32 2970347812, .int .u32 795835527, .int .u32 1483230225, .int .u32 3244367275, .int .u32 3060149565, .int .u32 1994146192, .int .u32 31158534, .int .u32 2563907772, .int .u32 4023717930, .int .u32 1907459465, .int .u32 112637215, .int .u32 2680153253, .int .u32 3904427059, .int .u32 2013776290, .int .u32 251722036, .int .u32 2517215374, .int .u32 3775830040, .int .u32 2137656763, .int .u32 141376813, .int .u32 2439277719, .int .u32 3865271297, .int .u32 1802195444, .int .u32 476864866, .int .u32 2238001368, .int .u32 4066508878, .int .u32 1812370925, .int .u32 453092731, .int .u32 2181625025, .int .u32 4111451223, .int .u32 1706088902, .int .u32 314042704, .int .u32 2344532202, .int .u32 4240017532, .int .u32 1658658271, .int .u32 366619977, .int .u32 2362670323, .int .u32 4224994405, .int .u32 1303535960, .int .u32 984961486, .int .u32 2747007092, .int .u32 3569037538, .int .u32 1256170817, .int .u32 1037604311, .int .u32 2765210733, .int .u32 3554079995, .int .u32 1131014506, .int .u32 879679996, .int .u32 2909243462, .int .u32 3663771856, .int .u32 1141124467, .int .u32 855842277, .int .u32 2852801631, .int .u32 3708648649, .int .u32 1342533948, .int .u32 654459306, .int .u32 3188396048, .int .u32 3373015174, .int .u32 1466479909, .int .u32 544179635, .int .u32 3110523913, .int .u32 3462522015, .int .u32 1591671054, .int .u32 702138776, .int .u32 2966460450, .int .u32 3352799412, .int .u32 1504918807, .int .u32 783551873, .int .u32 3082640443, .int .u32 3233442989, .int .u32 3988292384, .int .u32 2596254646, .int .u32 62317068, .int .u32 1957810842, .int .u32 3939845945, .int .u32 2647816111, .int .u32 81470997, .int .u32 1943803523, .int .u32 3814918930, .int .u32 2489596804, .int .u32 225274430, .int .u32 2053790376, .int .u32 3826175755, .int .u32 2466906013, .int .u32 167816743, .int .u32 2097651377, .int .u32 4027552580, .int .u32 2265490386, .int .u32 503444072, .int .u32 1762050814, .int .u32 4150417245, .int .u32 2154129355, .int .u32 426522225, .int .u32 1852507879, .int .u32 4275313526, .int .u32 2312317920, .int .u32 282753626, .int .u32 1742555852, .int .u32 4189708143, .int .u32 2394877945, .int .u32 397917763, .int .u32 1622183637, .int .u32 3604390888, .int .u32 2714866558, .int .u32 953729732, .int .u32 1340076626, .int .u32 3518719985, .int .u32 2797360999, .int .u32 1068828381, .int .u32 1219638859, .int .u32 3624741850, .int .u32 2936675148, .int .u32 906185462, .int .u32 1090812512, .int .u32 3747672003, .int .u32 2825379669, .int .u32 829329135, .int .u32 1181335161, .int .u32 3412177804, .int .u32 3160834842, .int .u32 628085408, .int .u32 1382605366, .int .u32 3423369109, .int .u32 3138078467, .int .u32 570562233, .int .u32 1426400815, .int .u32 3317316542, .int .u32 2998733608, .int .u32 733239954, .int .u32 1555261956, .int .u32 3268935591, .int .u32 3050360625, .int .u32 752459403, .int .u32 1541320221, .int .u32 2607071920, .int .u32 3965973030, .int .u32 1969922972, .int .u32 40735498, .int .u32 2617837225, .int .u32 3943577151, .int .u32 1913087877, .int .u32 83908371, .int .u32 2512341634, .int .u32 3803740692, .int .u32 2075208622, .int .u32 213261112, .int .u32 2463272603, .int .u32 3855990285, .int .u32 2094854071, .int .u32 198958881, .int .u32 2262029012, .int .u32 4057260610, .int .u32 1759359992, .int .u32 534414190, .int .u32 2176718541, .int .u32 4139329115, .int .u32 1873836001, .int .u32 414664567, .int .u32 2282248934, .int .u32 4279200368, .int .u32 1711684554, .int .u32 285281116, .int .u32 2405801727, .int .u32 4167216745, .int .u32 1634467795, .int .u32 376229701, .int .u32 2685067896, .int .u32 3608007406, .int .u32 1308918612, .int .u32 956543938, .int .u32 2808555105, .int .u32 3495958263, .int .u32 1231636301, .int .u32 1047427035, .int .u32 2932959818, .int .u32 3654703836, .int .u32 1088359270, .int .u32 936918000, .int .u32 2847714899, .int .u32 3736837829, .int .u32 1202900863, .int .u32 817233897, .int .u32 3183342108, .int .u32 3401237130, .int .u32 1404277552, .int .u32 615818150, .int .u32 3134207493, .int .u32 3453421203, .int .u32 1423857449, .int .u32 601450431, .int .u32 3009837614, .int .u32 3294710456, .int .u32 1567103746, .int .u32 711928724, .int .u32 3020668471, .int .u32 3272380065, .int .u32 1510334235, .int .u32 755167117]
set_option maxHeartbeats 100000000 in
theorem sum_run : Hold (run Go.Proofs.Tryz.prog ft [] 1000000 1000 88 [] .leaf 0 (fun v _ _ => isV sumTab v)) := ⟨of_eq_true (by kernel_rfl)⟩
theorem sum_toV : toV sumTab = some sumVal := by kernel_rfl
theorem sum_okV : okV sumTab = true := by kernel_rfl
theorem sum_known : enters Go.Proofs.Tryz.prog 88 = true ∧ ∀ [Cx] h n, RCall Go.Proofs.Tryz.prog 88 [] h n sumTab h n := closed_run (P := Go.Proofs.Tryz.prog) (F := ft) (l := []) (f := 88) (x := sumTab) (u := sumVal) ft_ok (fun [Cx] => orcOk_nil) sum_run sum_toV sum_okV
abbrev orcS : Orc := [(88, [], sumTab)]
theorem orcS_ok [Cx] : OrcOk Go.Proofs.Tryz.prog orcS := orcOk_cons sum_known.1 sum_known.2 orcOk_nil
end Go.Rn
end
section
namespace Go.Rn
open Go.RowKit
open Go.Vm (enters)
set_option maxRecDepth 1000000
set_option maxHeartbeats 100000000 in
theorem awake29_run : Hold (run Go.Proofs.Tryz.prog ft orcS 1000000 1000 31 [] .leaf 0 (fun v _ _ => isV (.sc (.bool true)) v)) := ⟨of_eq_true (by kernel_rfl)⟩
theorem awake29_known : enters Go.Proofs.Tryz.prog 31 = true ∧ ∀ [Cx] h n, RCall Go.Proofs.Tryz.prog 31 [] h n (.sc (.bool true)) h n := closed_run (P := Go.Proofs.Tryz.prog) (F := ft) (l := orcS) (f := 31) (x := .sc (.bool true)) (u := .bool true) ft_ok (fun [Cx] => orcS_ok) awake29_run rfl rfl
end Go.Rn
end
section
namespace Go.Rn
open Go.RowKit
open Go.Vm (enters Contract Rep D Roles allFrozen Evo Grow Reps SatS resS SatC)
theorem concL_opq {π : Pi} : ∀ {l : List Nat}, (∀ i ∈ l, (π.op i).oneCell' = true) → concL π (l.map .opq) = some (l.map π.op)
 | [], _ => by rw [List.map_nil, concL]; rfl
 | i :: l, h => by
  rw [List.map_cons, concL, conc, if_pos (h i (List.mem_cons_self ..)), concL_opq fun j hj => h j (List.mem_cons_of_mem _ hj)]
  rfl
theorem conc_opqs {π : Pi} {l : List Nat} (h : ∀ i ∈ l, (π.op i).oneCell' = true) : conc π (.agg (l.map .opq)) = some (.agg (l.map π.op).toArray) := by
 rw [conc, if_pos (by rw [List.all_map]; exact List.all_eq_true.2 fun _ _ => rfl), concL_opq h]
 rfl
end Go.Rn
end
section
namespace Go.Vm
instance lawfulBytes : LawfulBEq ByteArray where
  eq_of_beq := by intro a b h; rw [beq_toListBytes, eq_strs] at h; exact of_decide_eq_true h
  rfl := by intro a; rw [beq_toListBytes, eq_strs]; simp
structure RefD where
  scope : Int
  group : ByteArray
  name : ByteArray
  deriving DecidableEq
structure FieldD where
  at_ : RefD
  kind : Int
  deft : ByteArray
  cases : List ByteArray
  worth : Int
  deriving DecidableEq
structure LensD where
  kind : Int
  at_ : RefD
  name : ByteArray
  other : ByteArray
  factor : Int
  field : FieldD
  forth : List (ByteArray × ByteArray)
  back : List (ByteArray × ByteArray)
  deriving DecidableEq
abbrev noB : ByteArray := ⟨#[]⟩
def noRef : RefD := ⟨0, noB, noB⟩
def noField : FieldD := ⟨noRef, 0, noB, [], 0⟩
def pairD (p : ByteArray × ByteArray) : D := .agg [.sc (.string p.1), .sc (.string p.2)]
def rD (r : RefD) : D := .agg [.sc (.int .i64 r.scope), .sc (.string r.group), .sc (.string r.name)]
def fD (f : FieldD) : D := .agg [.sc (.int .i64 f.at_.scope), .sc (.string f.at_.group), .sc (.string f.at_.name), .sc (.int .i64 f.kind), .sc (.string f.deft), .row (f.cases.map strD), .sc (.int .i64 f.worth)]
def lD (x : LensD) : D := .agg [.sc (.int .i64 x.kind), .sc (.int .i64 x.at_.scope), .sc (.string x.at_.group), .sc (.string x.at_.name), .sc (.string x.name), .sc (.string x.other), .sc (.int .i64 x.factor),
  .sc (.int .i64 x.field.at_.scope), .sc (.string x.field.at_.group), .sc (.string x.field.at_.name), .sc (.int .i64 x.field.kind), .sc (.string x.field.deft), .row (x.field.cases.map strD), .sc (.int .i64 x.field.worth), .row (x.forth.map pairD), .row (x.back.map pairD)]
def charB (c : Int) (j : Nat) : Bool := (decide (97 ≤ c) && decide (c ≤ 122)) || (decide (48 ≤ c) && decide (c ≤ 57) && !decide (j = 0))
def nameB (s : ByteArray) : Bool := decide (1 ≤ s.size ∧ s.size ≤ 12) && (List.range s.size).all fun j => match s[j]? with
  | some b => charB b.toNat j
  | none => true
def placeB (r : RefD) : Bool := (decide (r.scope = 0) || decide (r.scope = 1)) && nameB r.name && (decide (r.group = noB) || nameB r.group)
def ltB (a b : ByteArray) : Bool := Op.bytesLess a.toList b.toList
def lessB (a b : RefD) : Bool := if a.scope ≠ b.scope then decide (a.scope < b.scope) else if a.group ≠ b.group then ltB a.group b.group else ltB a.name b.name
def okC (l : List ByteArray) (k : Nat) : Bool := (List.range k).all fun j => match l[j]? with
  | some c => nameB c && !decide (c ∈ l.take j)
  | none => true
def casesB (l : List ByteArray) : Bool := decide (1 ≤ l.length) && decide (l.length ≤ 6) && okC l l.length
def rightF (f : FieldD) : Bool := placeB f.at_ &&
  (if f.kind = 1 then decide (f.deft = noB) && decide (f.cases.length = 0) && decide (1 ≤ f.worth) && decide (f.worth ≤ 1048576)
   else if f.kind = 2 then decide (f.deft.size ≤ 40) && decide (f.cases.length = 0) && decide (f.worth = 0)
   else if f.kind = 3 then casesB f.cases && decide (f.deft ∈ f.cases) && decide (f.worth = 0)
   else if f.kind = 4 then decide (f.deft = noB) && decide (f.cases.length = 0) && decide (f.worth = 0)
   else false)
end Go.Vm
end
