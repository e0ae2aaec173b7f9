/- Places and pairs held against each other. Printed by lens_field.py. -/
import Derived.Test.YthkgbmekiclgmaaLnPlain
import Derived.Test.YthkgbmekiclgmaaTypes
namespace Go.Vm
open Go.RowKit Go.Proofs
set_option linter.unusedVariables false
set_option linter.unusedSimpArgs false
set_option maxRecDepth 10000
theorem v_24 (x : RefD) : conc (rD x) = some (.agg #[.int .i64 x.scope, .string x.group, .string x.name]) := rfl
theorem runeq_24 (r s : RefD) (x y : Operand) (w : World) : (do eqGuard .eql 24 x y (.agg #[.int .i64 r.scope, .string r.group, .string r.name]) (.agg #[.int .i64 s.scope, .string s.group, .string s.name]); binOp .eql 24 (.agg #[.int .i64 r.scope, .string r.group, .string r.name]) (.agg #[.int .i64 s.scope, .string s.group, .string s.name]) : Sem Value).run Try.prog w = .ok (.bool (decide (r = s))) w := by
  obtain ⟨a, b, c⟩ := r
  obtain ⟨a', b', c'⟩ := s
  simp [go_sem, eq_strs]
  repeat (first | (split <;> simp_all; done) | split)
  all_goals simp_all
theorem eq_24 {N : Nat} {env : Env} {o : Oper} {d : Nat} {x y : Operand} {t' : TypeId} {r s : RefD} (hop : o.op = .binOp .eql 24 x y t' := by rfl) (hx : vd env x = some (rD r) := by simp only [strD, vget, vd, vc1, vconst, plainV, C.asD, conc, scs, Option.map_some, Option.map_none, ↓upd_get, ↓boxEnv_get, ↓spend_get, noEnv_get, ↓reduceIte, Nat.reduceEqDiff, reduceCtorEq, unref, demote, demoteC, slotV, ↓freshOf_get, fresh1_c, fresh1_at, fresh1_tup, fresh1_junk, ↓keep_get, keep_none]; rfl) (hy : vd env y = some (rD s) := by simp only [strD, vget, vd, vc1, vconst, plainV, C.asD, conc, scs, Option.map_some, Option.map_none, ↓upd_get, ↓boxEnv_get, ↓spend_get, noEnv_get, ↓reduceIte, Nat.reduceEqDiff, reduceCtorEq, unref, demote, demoteC, slotV, ↓freshOf_get, fresh1_c, fresh1_at, fresh1_tup, fresh1_junk, ↓keep_get, keep_none]; rfl) (hdst : o.dst = some d := by rfl) (hd : d < N := by decide) : Yield Try.prog N o env (.c (.d (.sc (.bool (decide (r = s)))))) :=
  y_binW hop (by unfold vc1; rw [hx]; exact v_24 r) (by unfold vc1; rw [hy]; exact v_24 s) (runeq_24 r s x y) rfl hdst hd
theorem runne_24 (r s : RefD) (x y : Operand) (w : World) : (do eqGuard .neq 24 x y (.agg #[.int .i64 r.scope, .string r.group, .string r.name]) (.agg #[.int .i64 s.scope, .string s.group, .string s.name]); binOp .neq 24 (.agg #[.int .i64 r.scope, .string r.group, .string r.name]) (.agg #[.int .i64 s.scope, .string s.group, .string s.name]) : Sem Value).run Try.prog w = .ok (.bool (!decide (r = s))) w := by
  obtain ⟨a, b, c⟩ := r
  obtain ⟨a', b', c'⟩ := s
  simp [go_sem, eq_strs]
  repeat (first | (split <;> simp_all; done) | split)
  all_goals simp_all
theorem ne_24 {N : Nat} {env : Env} {o : Oper} {d : Nat} {x y : Operand} {t' : TypeId} {r s : RefD} (hop : o.op = .binOp .neq 24 x y t' := by rfl) (hx : vd env x = some (rD r) := by simp only [strD, vget, vd, vc1, vconst, plainV, C.asD, conc, scs, Option.map_some, Option.map_none, ↓upd_get, ↓boxEnv_get, ↓spend_get, noEnv_get, ↓reduceIte, Nat.reduceEqDiff, reduceCtorEq, unref, demote, demoteC, slotV, ↓freshOf_get, fresh1_c, fresh1_at, fresh1_tup, fresh1_junk, ↓keep_get, keep_none]; rfl) (hy : vd env y = some (rD s) := by simp only [strD, vget, vd, vc1, vconst, plainV, C.asD, conc, scs, Option.map_some, Option.map_none, ↓upd_get, ↓boxEnv_get, ↓spend_get, noEnv_get, ↓reduceIte, Nat.reduceEqDiff, reduceCtorEq, unref, demote, demoteC, slotV, ↓freshOf_get, fresh1_c, fresh1_at, fresh1_tup, fresh1_junk, ↓keep_get, keep_none]; rfl) (hdst : o.dst = some d := by rfl) (hd : d < N := by decide) : Yield Try.prog N o env (.c (.d (.sc (.bool (!decide (r = s)))))) :=
  y_binW hop (by unfold vc1; rw [hx]; exact v_24 r) (by unfold vc1; rw [hy]; exact v_24 s) (runne_24 r s x y) rfl hdst hd
theorem v_55 (x : (ByteArray × ByteArray)) : conc (pairD x) = some (.agg #[.string x.1, .string x.2]) := rfl
theorem runeq_55 (r s : (ByteArray × ByteArray)) (x y : Operand) (w : World) : (do eqGuard .eql 55 x y (.agg #[.string r.1, .string r.2]) (.agg #[.string s.1, .string s.2]); binOp .eql 55 (.agg #[.string r.1, .string r.2]) (.agg #[.string s.1, .string s.2]) : Sem Value).run Try.prog w = .ok (.bool (decide (r = s))) w := by
  obtain ⟨a, b⟩ := r
  obtain ⟨a', b'⟩ := s
  simp [go_sem, eq_strs]
  repeat (first | (split <;> simp_all; done) | split)
  all_goals simp_all
theorem eq_55 {N : Nat} {env : Env} {o : Oper} {d : Nat} {x y : Operand} {t' : TypeId} {r s : (ByteArray × ByteArray)} (hop : o.op = .binOp .eql 55 x y t' := by rfl) (hx : vd env x = some (pairD r) := by simp only [strD, vget, vd, vc1, vconst, plainV, C.asD, conc, scs, Option.map_some, Option.map_none, ↓upd_get, ↓boxEnv_get, ↓spend_get, noEnv_get, ↓reduceIte, Nat.reduceEqDiff, reduceCtorEq, unref, demote, demoteC, slotV, ↓freshOf_get, fresh1_c, fresh1_at, fresh1_tup, fresh1_junk, ↓keep_get, keep_none]; rfl) (hy : vd env y = some (pairD s) := by simp only [strD, vget, vd, vc1, vconst, plainV, C.asD, conc, scs, Option.map_some, Option.map_none, ↓upd_get, ↓boxEnv_get, ↓spend_get, noEnv_get, ↓reduceIte, Nat.reduceEqDiff, reduceCtorEq, unref, demote, demoteC, slotV, ↓freshOf_get, fresh1_c, fresh1_at, fresh1_tup, fresh1_junk, ↓keep_get, keep_none]; rfl) (hdst : o.dst = some d := by rfl) (hd : d < N := by decide) : Yield Try.prog N o env (.c (.d (.sc (.bool (decide (r = s)))))) :=
  y_binW hop (by unfold vc1; rw [hx]; exact v_55 r) (by unfold vc1; rw [hy]; exact v_55 s) (runeq_55 r s x y) rfl hdst hd
theorem runne_55 (r s : (ByteArray × ByteArray)) (x y : Operand) (w : World) : (do eqGuard .neq 55 x y (.agg #[.string r.1, .string r.2]) (.agg #[.string s.1, .string s.2]); binOp .neq 55 (.agg #[.string r.1, .string r.2]) (.agg #[.string s.1, .string s.2]) : Sem Value).run Try.prog w = .ok (.bool (!decide (r = s))) w := by
  obtain ⟨a, b⟩ := r
  obtain ⟨a', b'⟩ := s
  simp [go_sem, eq_strs]
  repeat (first | (split <;> simp_all; done) | split)
  all_goals simp_all
theorem ne_55 {N : Nat} {env : Env} {o : Oper} {d : Nat} {x y : Operand} {t' : TypeId} {r s : (ByteArray × ByteArray)} (hop : o.op = .binOp .neq 55 x y t' := by rfl) (hx : vd env x = some (pairD r) := by simp only [strD, vget, vd, vc1, vconst, plainV, C.asD, conc, scs, Option.map_some, Option.map_none, ↓upd_get, ↓boxEnv_get, ↓spend_get, noEnv_get, ↓reduceIte, Nat.reduceEqDiff, reduceCtorEq, unref, demote, demoteC, slotV, ↓freshOf_get, fresh1_c, fresh1_at, fresh1_tup, fresh1_junk, ↓keep_get, keep_none]; rfl) (hy : vd env y = some (pairD s) := by simp only [strD, vget, vd, vc1, vconst, plainV, C.asD, conc, scs, Option.map_some, Option.map_none, ↓upd_get, ↓boxEnv_get, ↓spend_get, noEnv_get, ↓reduceIte, Nat.reduceEqDiff, reduceCtorEq, unref, demote, demoteC, slotV, ↓freshOf_get, fresh1_c, fresh1_at, fresh1_tup, fresh1_junk, ↓keep_get, keep_none]; rfl) (hdst : o.dst = some d := by rfl) (hd : d < N := by decide) : Yield Try.prog N o env (.c (.d (.sc (.bool (!decide (r = s)))))) :=
  y_binW hop (by unfold vc1; rw [hx]; exact v_55 r) (by unfold vc1; rw [hy]; exact v_55 s) (runne_55 r s x y) rfl hdst hd

end Go.Vm
