/- The plain reading: loads, with the parts of the layer's data. -/
import Derived.Test.YthkgbmekiclgmaaLnPlain
import Derived.Test.YthkgbmekiclgmaaVmB
namespace Go.Vm
open Go.RowKit
set_option linter.unusedVariables false
set_option linter.unusedSimpArgs false

theorem k_ldr {P : Program} {N : Nat} {env : Env} {o : Oper} {d : Nat} {T : TypeId} {x : Operand} {t off : Nat} {cs : List D} {sh : Bool × Nat} {r : D} (hsh : tshape P T = some sh) (hop : o.op = .load T x := by rfl) (hx : vget env x = .ref t off := by (simp only [strD, vget, vd, vc1, vconst, plainV, C.asD, conc, scs, Option.map_some, Option.map_none, ↓upd_get, ↓boxEnv_get, ↓spend_get, noEnv_get, ↓reduceIte, Nat.reduceEqDiff, reduceCtorEq, unref, demote, demoteC, slotV, ↓freshOf_get, fresh1_c, fresh1_at, fresh1_tup, fresh1_junk, ↓keep_get, keep_none] <;> rfl)) (hb : env t = .box cs := by (simp only [strD, vget, vd, vc1, vconst, plainV, C.asD, conc, scs, Option.map_some, Option.map_none, ↓upd_get, ↓boxEnv_get, ↓spend_get, noEnv_get, ↓reduceIte, Nat.reduceEqDiff, reduceCtorEq, unref, demote, demoteC, slotV, ↓freshOf_get, fresh1_c, fresh1_at, fresh1_tup, fresh1_junk, ↓keep_get, keep_none] <;> rfl)) (hp : partD sh cs off = some r := by first | exact pd_f _ | exact pd_fr _ | exact pd_r _ | exact pd_l _ | exact pd_lr _ | exact pd_lf _ | exact pd_lfr _ | exact pd_p _ | rfl) (hdst : o.dst = some d := by rfl) (hd : d < N := by decide) : Yield P N o env (.c (.d r)) := y_load_ref hop hx hb hsh hp hdst hd

theorem k_lda {P : Program} {N : Nat} {env : Env} {o : Oper} {d : Nat} {T : TypeId} {x : Operand} {off : Nat} {cs : List D} {sh : Bool × Nat} {r : D} (hsh : tshape P T = some sh) (hop : o.op = .load T x := by rfl) (hx : vget env x = .at_ cs off := by (simp only [strD, vget, vd, vc1, vconst, plainV, C.asD, conc, scs, Option.map_some, Option.map_none, ↓upd_get, ↓boxEnv_get, ↓spend_get, noEnv_get, ↓reduceIte, Nat.reduceEqDiff, reduceCtorEq, unref, demote, demoteC, slotV, ↓freshOf_get, fresh1_c, fresh1_at, fresh1_tup, fresh1_junk, ↓keep_get, keep_none] <;> rfl)) (hp : partD sh cs off = some r := by first | exact pd_f _ | exact pd_fr _ | exact pd_r _ | exact pd_l _ | exact pd_lr _ | exact pd_lf _ | exact pd_lfr _ | exact pd_p _ | rfl) (hdst : o.dst = some d := by rfl) (hd : d < N := by decide) : Yield P N o env (.c (.d r)) := y_load_at hop hx hsh hp hdst hd

end Go.Vm
