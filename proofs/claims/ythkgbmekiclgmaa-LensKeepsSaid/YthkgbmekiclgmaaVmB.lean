/- The plain reading: labels, by what holds at each. -/
import Derived.Test.YthkgbmekiclgmaaVmA
namespace Go.Vm
open Go.RowKit
set_option linter.unusedVariables false
set_option linter.unusedSimpArgs false

theorem pd_all {n : Nat} {cs : List D} (h : cs.length = n) : partD (true, n) cs 0 = some (.agg cs) := by
  subst h; simp [partD]

section
variable {P : Program} {N : Nat} {env : Env} {Q : Exit → Env → Prop}

theorem vc_fall_label {l : Nat} {c : Code} (h : VC P N c env Q) : VC P N (.seq (.label l) c) env Q := vc_then (vc_label h)
theorem vc_fall_skip {c : Code} (h : VC P N c env Q) : VC P N (.seq .skip c) env Q := vc_then (vc_skip h)
def labelBody (c : Code) (l : Nat) : Code := match findLabel c l with
  | some (.seq _ r) => r
  | _ => .skip
theorem vc_goto_scope {c : Code} (J : Nat → Nat → Env → Prop) (hf : ∀ l n env, J l n env → findLabel c l = some (.seq .skip (labelBody c l)))
    (pass : ∀ l n env, J l n env → (∀ l' m env', m < n → J l' m env' → VC P N (labelBody c l') env' (jumpQ (fun l'' env'' => ∃ m', m' < n ∧ J l'' m' env'') Q)) → VC P N (labelBody c l) env (jumpQ (fun l' env' => ∃ m, m < n ∧ J l' m env') Q))
    (first : (∀ l n env', J l n env' → VC P N (labelBody c l) env' (jumpQ (fun l env => ∃ n, J l n env) Q)) → VC P N c env (jumpQ (fun l env => ∃ n, J l n env) Q)) : VC P N (.scope c) env Q := by
  have key : ∀ n l env, J l n env → VC P N (labelBody c l) env (jumpQ (fun l' env' => ∃ m, m < n ∧ J l' m env') Q) := by
    intro n
    induction n using Nat.strongRecOn with
    | _ n ih =>
      intro l env hJ
      refine pass l n env hJ fun l' m env' hm hJ' => vc_mono (ih m hm l' env' hJ') ?_
      intro e env2 h
      cases e with
      | goto g => obtain ⟨m', h1, h2⟩ := h; exact ⟨m', Nat.lt_trans h1 hm, h2⟩
      | _ => exact h
  refine vc_scope J (fun l => .seq .skip (labelBody c l)) hf (first fun l n env' hJ => vc_mono (key n l env' hJ) ?_) (fun l n env hJ => vc_fall_skip (key n l env hJ))
  intro e env2 h
  cases e with
  | goto g => obtain ⟨m', _, h2⟩ := h; exact ⟨m', h2⟩
  | _ => exact h
theorem vc_goto_scope0 {c : Code} (J : Env → Nat → Nat → Env → Prop) (hf : ∀ l n env', J env l n env' → findLabel c l = some (.seq .skip (labelBody c l)))
    (pass : ∀ l n env', J env l n env' → (∀ l' m env2, m < n → J env l' m env2 → VC P N (labelBody c l') env2 (jumpQ (fun l'' env'' => ∃ m', m' < n ∧ J env l'' m' env'') Q)) → VC P N (labelBody c l) env' (jumpQ (fun l' env' => ∃ m, m < n ∧ J env l' m env') Q))
    (first : (∀ l n env', J env l n env' → VC P N (labelBody c l) env' (jumpQ (fun l env' => ∃ n, J env l n env') Q)) → VC P N c env (jumpQ (fun l env' => ∃ n, J env l n env') Q)) : VC P N (.scope c) env Q :=
  vc_goto_scope (J env) hf pass first
end
end Go.Vm
