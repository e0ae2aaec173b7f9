/- The walk of LensCases. Printed by lens_case.py. -/
import Derived.Test.YtheafphhgacpfaaLnCase
import Derived.Test.YtheafphhgacpfaaLnAwake
import Derived.Test.YtheafphhgacpfaaBridge
namespace Go.Vm
open Go.RowKit Go.Proofs
set_option linter.unusedVariables false
set_option linter.unusedSimpArgs false
set_option maxRecDepth 10000

set_option maxHeartbeats 1000000 in
theorem lensCases_any (l : List (ByteArray × ByteArray)) (s : ByteArray) : Contract Try.prog 5 [.row (l.map pairD), .sc (.string s)] [.d (.sc (.bool true))] := by
  refine fn_of (N := 34) [.tmp 4] Try.func5 ?_
  simp only [envUp, Nat.zero_add, Nat.reduceAdd]
  refine vc_then ?_
  refine vc_region ?_
  refine vy a_assign ?_
  refine vl_nil ?_
  refine vc_then ?_
  refine vc_then ?_
  refine vc_region ?_
  refine vy (a_call (hf := T.en_8) (hc := by exact awake_any)) ?_
  refine vy a_not ?_
  refine vl_nil ?_
  refine vif (fun hc1 => ?_) (fun hc1 => ?_)
  · -- yes
    exact absurd hc1 (by simp)
  · -- no
    refine vc_skip ?_
    refine vc_then ?_
    refine vc_then ?_
    refine vc_region ?_
    refine vy a_move ?_
    refine vy (a_len (hT := T.es_28)) ?_
    refine vy (a_bin (hr := by first | exact pr_gtr)) ?_
    refine vl_nil ?_
    refine vif (fun hc2 => ?_) (fun hc2 => ?_)
    · -- yes
      refine vc_then ?_
      refine vc_region ?_
      refine vy a_assign ?_
      refine vl_nil ?_
      refine vc_ret ?_
      refine fin ?_
      simp only [fitsL, fits, C.asD, and_true]
      all_goals (simp)
    · -- no
      have hl : l.length ≤ 1000 := by have := of_decide_eq_false hc2; omega
      refine vc_skip ?_
      refine vc_then ?_
      refine vc_region ?_
      refine vy a_move ?_
      refine vy a_move ?_
      refine vy (a_call (hf := T.en_23) (hc := by exact case_any _ _ (by assumption))) ?_
      refine vy a_move ?_
      refine vy a_ext ?_
      refine vy a_ext ?_
      refine vy a_assign ?_
      refine vy a_assign ?_
      refine vl_nil ?_
      refine vc_then ?_
      refine vc_region ?_
      refine vy a_move ?_
      refine vy a_move ?_
      refine vy (a_call (hf := T.en_24) (hc := by exact refCase_any _ _ (by assumption))) ?_
      refine vy a_move ?_
      refine vy a_ext ?_
      refine vy a_ext ?_
      refine vy a_assign ?_
      refine vy a_assign ?_
      refine vl_nil ?_
      refine vc_then ?_
      refine vc_region ?_
      refine vy a_move ?_
      refine vy a_move ?_
      refine vy (a_bin (hr := by first | exact pr_eql | exact pr_eqs | exact pr_eqb Try.underlying9)) ?_
      refine vy a_move ?_
      refine vb 29 (fun hg3 => ?_) (fun hg3 => ?_)
      · -- guard yes
        refine vy a_move ?_
        refine vy a_move ?_
        refine vy (a_bin (hr := by first | exact pr_eql | exact pr_eqs | exact pr_eqb Try.underlying4)) ?_
        refine vy a_pick ?_
        refine vy a_assign ?_
        refine vl_nil ?_
        refine vc_ret ?_
        refine fin ?_
        simp only [fitsL, fits, C.asD, and_true]
        all_goals (simp)
      · -- guard no
        exact absurd hg3 (by simp)

theorem pair_cells (w : World) : Cells Try.prog w 55 pairD (fun _ => True) := by
  intro es h
  obtain ⟨hl, hf⟩ := h.struct Try.underlying55
  rw [show Try.prog.cellsOf 55 = 2 from by kernel_rfl] at hl
  have h0 := hf _ (List.mem_cons_self ..)
  have h1 := hf _ (List.mem_cons_of_mem _ (List.mem_cons_self ..))
  simp only [show Try.prog.cellsOf 9 = 1 from by kernel_rfl] at h0 h1
  obtain ⟨s0, e0, b0⟩ := h0.string Try.underlying9
  obtain ⟨s1, e1, b1⟩ := h1.string Try.underlying9
  match es, hl, e0, e1 with
  | [x, y], _, e0, e1 =>
    simp at e0 e1
    subst e0 e1
    refine ⟨(s0, s1), ⟨rfl, by simp [Value.oneCell'], fun j u c hu hc => ?_⟩, trivial⟩
    match j, hu, hc with
    | 0, hu, hc => simp [pairD, D.cells] at hu hc; subst hu hc; exact .sc rfl
    | 1, hu, hc => simp [pairD, D.cells] at hu hc; subst hu hc; exact .sc rfl
    | j + 2, hu, _ => simp at hu

end Go.Vm
namespace Go.Proofs.Ytheafphhgacpfaa
open Go.RowKit Go.Vm
theorem lensCases_walk (a0 : Option Addr) (l0 c0 : Nat) (a1 : ByteArray) (w : World) (r0 : Reads Try.prog w 28 [.slice a0 l0 c0]) (w1 : a1.size ≤ maxLen) :
    Calls Try.prog 5 #[.slice a0 l0 c0, .string a1] w fun e w' => e = .returned (.bool true) ∧ Below w.heap.size w w' := by
  obtain ⟨xs, hx, _⟩ := row_of Try.underlying28 (show Try.prog.cellsOf 55 = 2 from by kernel_rfl) (by omega) (fun _ => rfl) (pair_cells w) r0
  refine law_true (lensCases_any xs a1) rfl ?_
  intro i v d hv hd
  match i, hv, hd with
  | 0, hv, hd => simp at hv hd; subst hv hd; exact hx
  | 1, hv, hd => simp at hv hd; subst hv hd; exact .sc rfl
  | i + 2, hv, _ => simp at hv
end Go.Proofs.Ytheafphhgacpfaa
namespace Go.Vm

end Go.Vm
