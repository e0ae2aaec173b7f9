/- The plain reading, run: what a closed call answers, by reckoning. -/
import Derived.Test.YthkgbmekiclgmaaVm9
namespace Go.Vm
open Go.RowKit
set_option linter.unusedVariables false
set_option linter.unusedSimpArgs false

def wide (sz : Nat) (ys : List D) : Bool := ys.all fun y => y.cells.length == sz
theorem wide_spec {sz : Nat} {ys : List D} (h : wide sz ys = true) : ∀ y ∈ ys, y.cells.length = sz := fun y hy => by
  have := List.all_eq_true.1 h y hy; simpa using this
def dense : Nat → List (Nat × D) → Bool
  | _, [] => true
  | k, (i, _) :: l => i == k && dense (k + 1) l
theorem dense_spec : ∀ {k : Nat} {l : List (Nat × D)}, dense k l = true → l = denseFrom k (l.map (·.2))
  | _, [], _ => rfl
  | k, (i, d) :: l, h => by
    simp only [dense, Bool.and_eq_true, beq_iff_eq] at h
    simp only [List.map_cons, denseFrom]
    rw [h.1, ← dense_spec h.2]

/-- What an operation yields. -/
def xyield (P : Program) (call : FuncId → List D → Option (List C)) (d : Nat) (o : Oper) (env : Env) : Option S :=
  match o.op with
  | .move x => some (vget env x)
  | .assign x => some (vget env x)
  | .pick x y z => match vd env x with
    | some (.sc (.bool b)) => some (if b then vget env y else vget env z)
    | _ => none
  | .binOp op t x y _ => match vc1 env x, vc1 env y with
    | some u, some v => match pureRun P (do eqGuard op t x y u v; binOp op t u v : Sem Value) with
      | some r => if plainV r then some (.c (.d (.sc r))) else none
      | none => none
    | _, _ => none
  | .unOp op _ x => match vc1 env x with
    | some u => match pureRun P (Op.unary op u) with
      | some r => if plainV r then some (.c (.d (.sc r))) else none
      | none => none
    | none => none
  | .convert t t' x => match vc1 env x with
    | some u => match pureRun P (convert t t' u) with
      | some r => if plainV r then some (.c (.d (.sc r))) else none
      | none => none
    | none => none
  | .load T x => match tshape P T with
    | some sh => match vget env x with
      | .ref t off => match env t with
        | .box cs => match partD sh cs off with
          | some r => some (.c (.d r))
          | none => none
        | _ => none
      | .at_ cs off => match partD sh cs off with
        | some r => some (.c (.d r))
        | none => none
      | _ => none
    | none => none
  | .fieldAddr T x f => match fieldOff P T f with
    | some k => match vget env x with
      | .ref t off => some (.ref t (off + k))
      | .at_ cs off => some (.at_ cs (off + k))
      | _ => none
    | none => none
  | .indexAddr T x ix => match vd env x, vd env ix, elemSize P T with
    | some (.row xs), some (.sc (.int _ i)), some sz => if 0 ≤ i then match xs[i.toNat]? with
        | some y => if y.cells.length = sz then some (.at_ y.cells 0) else none
        | none => none
      else none
    | _, _, _ => none
  | .extract x i => match vget env x with
    | .tup cs => match cs[i]? with
      | some c => some (.c c)
      | none => none
    | _ => none
  | .index T x ix => match vd env x, vd env ix, P.underlying T with
    | some (.sc (.string s)), some (.sc (.int _ i)), some .string => if 0 ≤ i then match s[i.toNat]? with
        | some b => some (.c (.d (.sc (.int .u8 b.toNat))))
        | none => none
      else none
    | _, _, _ => none
  | .build T parts => match vparts env parts.toList with
    | some ds => match builtD P T ds with
      | some cs => some (.c (.d (.agg cs)))
      | none => none
    | none => none
  | .buildSlice T len parts => match elemFull P T, vparts env parts.toList with
    | some (e, sz, _), some ds => if dense 0 ds ∧ ds.length = len ∧ wide sz (ds.map (·.2)) ∧ (zeroOf P e).isSome ∧ len * sz ≤ 16777216 then some (.c (.own d e (ds.map (·.2)))) else none
    | _, _ => none
  | .makeSlice T l c => match elemFull P T, vd env l, vd env c with
    | some (e, _, bytes), some (.sc (.int _ 0)), some (.sc (.int _ (.ofNat n))) => if bytes * n ≤ 281474976710656 ∧ n ≤ 16777216 then some (.c (.own d e [])) else none
    | _, _, _ => none
  | .slice T x lo hi none => match vd env x with
    | some (.row xs) => match elemSize P T, bnd env lo 0, bnd env hi xs.length with
      | some sz, some l, some h => if wide sz xs ∧ l ≤ h ∧ h ≤ xs.length then some (.c (.d (.row ((xs.take h).drop l)))) else none
      | _, _, _ => none
    | some (.sc (.string s)) => match P.underlying T, bnd env lo 0, bnd env hi s.size with
      | some .string, some l, some h => if l ≤ h ∧ h ≤ s.size then some (.c (.d (.sc (.string (s.extract l h))))) else none
      | _, _, _ => none
    | _ => none
  | .call c => match c.callee with
    | .builtin .len => match c.args.toList, c.argTypes.toList with
      | [x], [T] => match vd env x with
        | some (.row xs) => match elemSize P T with
          | some _ => some (.c (.d (.sc (.int .i64 xs.length))))
          | none => none
        | some (.sc (.string s)) => match P.underlying T with
          | some .string => some (.c (.d (.sc (.int .i64 s.size))))
          | _ => none
        | _ => none
      | _, _ => none
    | .builtin .append => match c.args.toList, c.argTypes.toList with
      | [x, y], [T, T'] => match vget env x with
        | .c .nil => match elemFull P T, vd env y with
          | some (e, sz, bytes), some (.row ys) => if T = T' ∧ wide sz ys ∧ ys.length ≤ 16777216 ∧ ys.length * bytes ≤ 140737488355328 then some (.c (.own d e ys)) else none
          | _, _ => none
        | _ => none
      | _, _ => none
    | .value (.func f) => if enters P f then match vargs env c.args.toList with
        | some ds => match call f ds with
          | some res => some (resS (res.map (setTok d)))
          | none => none
        | none => none
      else none
    | _ => none
  | _ => none

set_option maxHeartbeats 1000000 in
theorem xyield_sound {P : Program} {N : Nat} {call : FuncId → List D → Option (List C)} (hcall : ∀ f ds r, call f ds = some r → Contract P f ds r) {d : Nat} {o : Oper} {env : Env} {s : S} (hdst : o.dst = some d) (hd : d < N) (h : xyield P call d o env = some s) : Yield P N o env s := by
  unfold xyield at h
  split at h
  · injection h with h; exact y_move ‹_› h hdst hd
  · injection h with h; exact y_assign ‹_› h hdst hd
  · split at h
    · injection h with h; exact y_pick ‹_› ‹_› h hdst hd
    · cases h
  · split at h
    · split at h
      · split at h
        · injection h with h; subst h; exact y_binop ‹_› ‹_› ‹_› ‹_› ‹_› hdst hd
        · cases h
      · cases h
    · cases h
  · split at h
    · split at h
      · split at h
        · injection h with h; subst h; exact y_unop ‹_› ‹_› ‹_› ‹_› hdst hd
        · cases h
      · cases h
    · cases h
  · split at h
    · split at h
      · split at h
        · injection h with h; subst h; exact y_convert ‹_› ‹_› ‹_› ‹_› hdst hd
        · cases h
      · cases h
    · cases h
  · split at h
    · split at h
      · split at h
        · split at h
          · injection h with h; subst h; exact y_load_ref ‹_› ‹_› ‹_› ‹_› ‹_› hdst hd
          · cases h
        · cases h
      · split at h
        · injection h with h; subst h; exact y_load_at ‹_› ‹_› ‹_› ‹_› hdst hd
        · cases h
      · cases h
    · cases h
  · split at h
    · split at h
      · injection h with h; subst h; exact y_field_ref ‹_› ‹_› ‹_› hdst hd
      · injection h with h; subst h; exact y_field_at ‹_› ‹_› ‹_› hdst hd
      · cases h
    · cases h
  · split at h
    · split at h
      · split at h
        · split at h
          · injection h with h; subst h; exact y_indexI ‹_› ‹_› ‹_› ‹_› ‹_› ‹_› rfl ‹_› hdst hd
          · cases h
        · cases h
      · cases h
    · cases h
  · split at h
    · split at h
      · injection h with h; subst h; exact y_extract ‹_› ‹_› ‹_› hdst hd
      · cases h
    · cases h
  · split at h
    · split at h
      · split at h
        · injection h with h; subst h; exact y_charI ‹_› ‹_› ‹_› ‹_› ‹_› ‹_› hdst hd
        · cases h
      · cases h
    · cases h
  · split at h
    · split at h
      · injection h with h; subst h; exact y_build ‹_› ‹_› ‹_› hdst hd
      · cases h
    · cases h
  · split at h
    · split at h
      · rename_i hc
        injection h with h; subst h
        exact y_lit ‹_› ‹_› ‹_› (dense_spec hc.1) hc.2.1 (wide_spec hc.2.2.1) hc.2.2.2.1 hc.2.2.2.2 hdst hd
      · cases h
    · cases h
  · split at h
    · split at h
      · rename_i hc
        injection h with h; subst h
        exact y_make ‹_› ‹_› ‹_› ‹_› hc.1 (by unfold maxLen; omega) hdst hd
      · cases h
    · cases h
  · split at h
    · split at h
      · split at h
        · rename_i hc
          injection h with h; subst h
          exact y_subrow ‹_› ‹_› ‹_› (wide_spec hc.1) ‹_› ‹_› hc.2.1 hc.2.2 hdst hd
        · cases h
      · cases h
    · split at h
      · split at h
        · rename_i hc
          injection h with h; subst h
          exact y_substr ‹_› ‹_› ‹_› ‹_› ‹_› hc.1 hc.2 hdst hd
        · cases h
      · cases h
    · cases h
  · rename_i c hop
    split at h
    · rename_i hcal
      split at h
      · rename_i x T hx hT
        obtain ⟨callee, args, argTypes⟩ := c
        obtain rfl : args = #[x] := Array.ext' (by simpa using hx)
        obtain rfl : argTypes = #[T] := Array.ext' (by simpa using hT)
        simp only at hcal
        subst hcal
        split at h
        · split at h
          · injection h with h; subst h; exact y_len (ts := #[]) hop ‹_› ‹_› hdst hd
          · cases h
        · split at h
          · injection h with h; subst h; exact y_lens hop ‹_› ‹_› hdst hd
          · cases h
        · cases h
      · cases h
    · rename_i hcal
      split at h
      · rename_i x y T T' hx hT
        obtain ⟨callee, args, argTypes⟩ := c
        obtain rfl : args = #[x, y] := Array.ext' (by simpa using hx)
        obtain rfl : argTypes = #[T, T'] := Array.ext' (by simpa using hT)
        simp only at hcal
        subst hcal
        split at h
        · split at h
          · split at h
            · rename_i hc
              injection h with h; subst h
              obtain ⟨rfl, h2, h3, h4⟩ := hc
              exact y_append_nil hop ‹_› ‹_› ‹_› (wide_spec h2) (by unfold maxLen; omega) h4 hdst hd
            · cases h
          · cases h
        · cases h
      · cases h
    · rename_i f hcal
      obtain ⟨callee, args, argTypes⟩ := c
      simp only at hcal
      subst hcal
      split at h
      · split at h
        · split at h
          · injection h with h; subst h; exact y_call hop ‹_› ‹_› (hcall _ _ _ ‹_›) hdst hd
          · cases h
        · cases h
      · cases h
    · cases h
  · cases h
end Go.Vm
