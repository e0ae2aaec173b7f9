/- The walk of LensApplies. Printed by lens_laws.py. -/
import Derived.Test.YthkgbmekiclgmaaLnApplyR
import Derived.Test.YthkgbmekiclgmaaLnAwake
import Derived.Test.YthkgbmekiclgmaaLnCells
namespace Go.Vm
open Go.RowKit Go.Proofs
set_option linter.unusedVariables false
set_option linter.unusedSimpArgs false
set_option maxRecDepth 10000

set_option maxHeartbeats 1000000 in
theorem lensApplies_any (l : List FieldD) (x : LensD) : Contract Try.prog 3 [.row (l.map fD), lD x] [.d (.sc (.bool (true)))] := by
 refine fn_of (N := 45) [.tmp 4] Try.func3 ?_
 simp only [envUp, Nat.zero_add, Nat.reduceAdd]
 refine vc_then ?_
 refine vc_region ?_
 refine vs b_box ?_
 refine vy a_assign ?_
 refine vl_nil ?_
 refine vc_then ?_
 refine vc_then ?_
 refine vc_region ?_
 refine vy (a_call (hf := T.en_11) (hc := by exact awake_any)) ?_
 refine vy a_not ?_
 refine vl_nil ?_
 refine vif (fun hc1 => ?_) (fun hc1 => ?_)
 · -- yes
  exact absurd hc1 (by simp)
 · -- no
  refine vc_skip ?_
  refine vc_then ?_
  refine vc_then ?_
  refine vc_region ?_
  refine vy a_move ?_
  refine vy (a_call (hf := T.en_12) (hc := by exact refSchemaHeavy_any _)) ?_
  refine vy a_move ?_
  refine vb 14 (fun hg2 => ?_) (fun hg2 => ?_)
  · -- guard yes
   refine vn ?_
   refine vn ?_
   refine vy a_pick ?_
   refine vl_nil ?_
   refine vif (fun hc3 => ?_) (fun hc3 => ?_)
   · -- yes
    refine vc_then ?_
    refine vc_region ?_
    refine vy a_assign ?_
    refine vl_nil ?_
    refine vc_ret ?_
    refine fin ?_
    simp only [fitsL, fits, C.asD, and_true]
    all_goals (first | rfl | (refine scb ?_; simp_all; done))
   · -- no
    first | (exfalso; have hdead := hc3; simp at hdead <;> omega) | (exfalso; simp_all; done)
  · -- guard no
   first | refine vy (k_ldr T.ts_30) ?_ | refine vy (k_lda T.ts_30) ?_
   refine vy (a_call (hf := T.en_13) (hc := by exact refLensHeavy_any _)) ?_
   refine vy a_pick ?_
   refine vl_nil ?_
   refine vif (fun hc4 => ?_) (fun hc4 => ?_)
   · -- yes
    refine vc_then ?_
    refine vc_region ?_
    refine vy a_assign ?_
    refine vl_nil ?_
    refine vc_ret ?_
    refine fin ?_
    simp only [fitsL, fits, C.asD, and_true]
    all_goals (first | rfl | (refine scb ?_; simp_all; done))
   · -- no
    have hh := hc4
    have ho : okL l := heavyS_ok (by simp_all)
    have hx0 : okX x := heavyL_ok (by simp_all)
    refine vc_skip ?_
    refine vc_then ?_
    refine vc_region ?_
    refine vy a_move ?_
    refine vy (a_call (hf := T.en_14) (hc := by exact schemaOwn_any _ ho)) ?_
    refine vy a_assign ?_
    refine vl_nil ?_
    refine vc_then ?_
    refine vc_region ?_
    refine vy a_move ?_
    first | refine vy (k_ldr T.ts_30) ?_ | refine vy (k_lda T.ts_30) ?_
    refine vy (a_call (hf := T.en_15) (hc := by exact apply_any _ _ ho hx0)) ?_
    refine vy a_move ?_
    refine vy a_ext ?_
    refine vy a_ext ?_
    refine vy a_assign ?_
    refine vy a_assign ?_
    refine vl_nil ?_
    refine vc_then ?_
    refine vc_region ?_
    refine vy a_move ?_
    first | refine vy (k_ldr T.ts_30) ?_ | refine vy (k_lda T.ts_30) ?_
    refine vy (a_call (hf := T.en_16) (hc := by exact refApply_any _ _ ho hx0)) ?_
    refine vy a_move ?_
    refine vy a_ext ?_
    refine vy a_ext ?_
    refine vy a_assign ?_
    refine vy a_assign ?_
    refine vl_nil ?_
    refine vc_then ?_
    refine vc_region ?_
    refine vy a_move ?_
    refine vy a_move ?_
    refine vy (a_bin (hr := by first | exact pr_eql | exact pr_eqs | exact pr_eqb Try.underlying35)) ?_
    refine vy a_move ?_
    refine vb 35 (fun hg5 => ?_) (fun hg5 => ?_)
    · -- guard yes
     refine vy a_move ?_
     refine vy a_move ?_
     refine vy (a_call (hf := T.en_17) (hc := by first | exact refSchemaSame_any _ _ ho | exact refSchemaSame_any _ _ (okL_apply ho hx0))) ?_
     refine vy a_pick ?_
     refine vy a_move ?_
     refine vb 40 (fun hg6 => ?_) (fun hg6 => ?_)
     · -- guard yes
      refine vy a_move ?_
      refine vy a_move ?_
      refine vy (a_call (hf := T.en_17) (hc := by first | exact refSchemaSame_any _ _ ho | exact refSchemaSame_any _ _ (okL_apply ho hx0))) ?_
      refine vy a_pick ?_
      refine vy a_assign ?_
      refine vl_nil ?_
      refine vc_ret ?_
      refine fin ?_
      simp only [fitsL, fits, C.asD, and_true]
      all_goals (first | rfl | (refine scb ?_; simp_all; done))
     · -- guard no
      refine vn ?_
      refine vn ?_
      refine vn ?_
      refine vy a_pick ?_
      refine vy a_assign ?_
      refine vl_nil ?_
      refine vc_ret ?_
      refine fin ?_
      simp only [fitsL, fits, C.asD, and_true]
      all_goals (first | rfl | (refine scb ?_; simp_all; done))
    · -- guard no
     refine vn ?_
     refine vn ?_
     refine vn ?_
     refine vy a_pick ?_
     refine vy a_move ?_
     refine vn ?_
     refine vn ?_
     refine vn ?_
     refine vy a_pick ?_
     refine vy a_assign ?_
     refine vl_nil ?_
     refine vc_ret ?_
     refine fin ?_
     simp only [fitsL, fits, C.asD, and_true]
     all_goals (first | rfl | (refine scb ?_; simp_all; done))

end Go.Vm
namespace Go.Proofs.Ythkgbmekiclgmaa
open Go.RowKit Go.Vm
theorem lensApplies_walk (a0 : Option Addr) (l0 c0 : Nat) (s1 : Array Value) (w : World) (r0 : Reads Try.prog w 22 [.slice a0 l0 c0]) (r1 : Reads Try.prog w 30 s1.toList) :
    Calls Try.prog 3 #[.slice a0 l0 c0, .agg s1] w fun e w' => e = .returned (.bool true) ∧ Below w.heap.size w w' := by
  obtain ⟨xs, hx, _⟩ := row_of Try.underlying22 (show Try.prog.cellsOf 27 = 7 from by kernel_rfl) (by omega) (fun _ => rfl) (field_cells w) r0
  obtain ⟨x, hs, _⟩ := lens_cells w _ r1
  have hs := rep_agg hs
  refine law_true (lensApplies_any xs x) rfl ?_
  intro i v d hv hd
  match i, hv, hd with
  | 0, hv, hd => simp at hv hd; subst hv hd; exact hx
  | 1, hv, hd => simp at hv hd; subst hv hd; exact hs
  | i + 2, hv, _ => simp at hv
end Go.Proofs.Ythkgbmekiclgmaa
namespace Go.Vm

end Go.Vm
