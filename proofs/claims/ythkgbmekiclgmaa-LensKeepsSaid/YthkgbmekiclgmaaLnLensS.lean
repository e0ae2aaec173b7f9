/- The walks of lenses held against each other. Printed by lens_lens.py. -/
import Derived.Test.YthkgbmekiclgmaaLnTables
namespace Go.Vm
open Go.RowKit Go.Proofs
set_option linter.unusedVariables false
set_option linter.unusedSimpArgs false
set_option maxRecDepth 10000

set_option maxHeartbeats 1000000 in
theorem lensSame_any (x y : LensD) (hx0 : okX x) : Contract Try.prog 30 [lD x, lD y] [.d (.sc (.bool (decide (x = y))))] := by
 refine fn_of (N := 59) [.tmp 4] Try.func30 ?_
 simp only [envUp, Nat.zero_add, Nat.reduceAdd]
 refine vc_then ?_
 refine vc_region ?_
 refine vs b_box ?_
 refine vs b_box ?_
 refine vy a_assign ?_
 refine vl_nil ?_
 refine vc_then ?_
 refine vc_region ?_
 first | refine vy (a_fr (hf := T.fo_30_0)) ?_ | refine vy (a_fa (hf := T.fo_30_0)) ?_
 first | refine vy (k_ldr T.ts_3) ?_ | refine vy (k_lda T.ts_3) ?_
 first | refine vy (a_fr (hf := T.fo_30_0)) ?_ | refine vy (a_fa (hf := T.fo_30_0)) ?_
 first | refine vy (k_ldr T.ts_3) ?_ | refine vy (k_lda T.ts_3) ?_
 refine vy (a_bin (hr := by first | exact pr_eql | exact pr_eqs | exact pr_eqb Try.underlying3)) ?_
 refine vy a_move ?_
 refine vb 10 (fun hg1 => ?_) (fun hg1 => ?_)
 · -- guard yes
  first | refine vy (a_fr (hf := T.fo_30_1)) ?_ | refine vy (a_fa (hf := T.fo_30_1)) ?_
  first | refine vy (k_ldr T.ts_24) ?_ | refine vy (k_lda T.ts_24) ?_
  first | refine vy (a_fr (hf := T.fo_30_1)) ?_ | refine vy (a_fa (hf := T.fo_30_1)) ?_
  first | refine vy (k_ldr T.ts_24) ?_ | refine vy (k_lda T.ts_24) ?_
  refine vy eq_24 ?_
  refine vy a_pick ?_
  refine vy a_move ?_
  refine vb 17 (fun hg2 => ?_) (fun hg2 => ?_)
  · -- guard yes
   first | refine vy (a_fr (hf := T.fo_30_2)) ?_ | refine vy (a_fa (hf := T.fo_30_2)) ?_
   first | refine vy (k_ldr T.ts_9) ?_ | refine vy (k_lda T.ts_9) ?_
   first | refine vy (a_fr (hf := T.fo_30_2)) ?_ | refine vy (a_fa (hf := T.fo_30_2)) ?_
   first | refine vy (k_ldr T.ts_9) ?_ | refine vy (k_lda T.ts_9) ?_
   refine vy (a_bin (hr := by first | exact pr_eql | exact pr_eqs | exact pr_eqb Try.underlying9)) ?_
   refine vy a_pick ?_
   refine vy a_move ?_
   refine vb 24 (fun hg3 => ?_) (fun hg3 => ?_)
   · -- guard yes
    first | refine vy (a_fr (hf := T.fo_30_3)) ?_ | refine vy (a_fa (hf := T.fo_30_3)) ?_
    first | refine vy (k_ldr T.ts_9) ?_ | refine vy (k_lda T.ts_9) ?_
    first | refine vy (a_fr (hf := T.fo_30_3)) ?_ | refine vy (a_fa (hf := T.fo_30_3)) ?_
    first | refine vy (k_ldr T.ts_9) ?_ | refine vy (k_lda T.ts_9) ?_
    refine vy (a_bin (hr := by first | exact pr_eql | exact pr_eqs | exact pr_eqb Try.underlying9)) ?_
    refine vy a_pick ?_
    refine vy a_move ?_
    refine vb 31 (fun hg4 => ?_) (fun hg4 => ?_)
    · -- guard yes
     first | refine vy (a_fr (hf := T.fo_30_4)) ?_ | refine vy (a_fa (hf := T.fo_30_4)) ?_
     first | refine vy (k_ldr T.ts_2) ?_ | refine vy (k_lda T.ts_2) ?_
     first | refine vy (a_fr (hf := T.fo_30_4)) ?_ | refine vy (a_fa (hf := T.fo_30_4)) ?_
     first | refine vy (k_ldr T.ts_2) ?_ | refine vy (k_lda T.ts_2) ?_
     refine vy (a_bin (hr := by first | exact pr_eql | exact pr_eqs | exact pr_eqb Try.underlying2)) ?_
     refine vy a_pick ?_
     refine vy a_move ?_
     refine vb 38 (fun hg5 => ?_) (fun hg5 => ?_)
     · -- guard yes
      first | refine vy (a_fr (hf := T.fo_30_5)) ?_ | refine vy (a_fa (hf := T.fo_30_5)) ?_
      first | refine vy (k_ldr T.ts_27) ?_ | refine vy (k_lda T.ts_27) ?_
      first | refine vy (a_fr (hf := T.fo_30_5)) ?_ | refine vy (a_fa (hf := T.fo_30_5)) ?_
      first | refine vy (k_ldr T.ts_27) ?_ | refine vy (k_lda T.ts_27) ?_
      refine vy (a_call (hf := T.en_93) (hc := by exact fieldSame_any _ _ (by first | assumption | exact hx0.1))) ?_
      refine vy a_pick ?_
      refine vy a_move ?_
      refine vb 45 (fun hg6 => ?_) (fun hg6 => ?_)
      · -- guard yes
       first | refine vy (a_fr (hf := T.fo_30_6)) ?_ | refine vy (a_fa (hf := T.fo_30_6)) ?_
       first | refine vy (k_ldr T.ts_28) ?_ | refine vy (k_lda T.ts_28) ?_
       first | refine vy (a_fr (hf := T.fo_30_6)) ?_ | refine vy (a_fa (hf := T.fo_30_6)) ?_
       first | refine vy (k_ldr T.ts_28) ?_ | refine vy (k_lda T.ts_28) ?_
       refine vy (a_call (hf := T.en_94) (hc := by exact samePairs_any _ _ (by first | assumption | exact hx0.2.1 | exact hx0.2.2))) ?_
       refine vy a_pick ?_
       refine vy a_move ?_
       refine vb 52 (fun hg7 => ?_) (fun hg7 => ?_)
       · -- guard yes
        first | refine vy (a_fr (hf := T.fo_30_7)) ?_ | refine vy (a_fa (hf := T.fo_30_7)) ?_
        first | refine vy (k_ldr T.ts_28) ?_ | refine vy (k_lda T.ts_28) ?_
        first | refine vy (a_fr (hf := T.fo_30_7)) ?_ | refine vy (a_fa (hf := T.fo_30_7)) ?_
        first | refine vy (k_ldr T.ts_28) ?_ | refine vy (k_lda T.ts_28) ?_
        refine vy (a_call (hf := T.en_94) (hc := by exact samePairs_any _ _ (by first | assumption | exact hx0.2.1 | exact hx0.2.2))) ?_
        refine vy a_pick ?_
        refine vy a_assign ?_
        refine vl_nil ?_
        refine vc_ret ?_
        refine fin ?_
        simp only [fitsL, fits, C.asD, and_true]
        all_goals (refine scb ?_; clear hx0; cases x; cases y; simp_all)
       · -- guard no
        refine vn ?_
        refine vn ?_
        refine vn ?_
        refine vn ?_
        refine vn ?_
        refine vy a_pick ?_
        refine vy a_assign ?_
        refine vl_nil ?_
        refine vc_ret ?_
        refine fin ?_
        simp only [fitsL, fits, C.asD, and_true]
        all_goals (refine scb ?_; clear hx0; cases x; cases y; simp_all)
      · -- guard no
       refine vn ?_
       refine vn ?_
       refine vn ?_
       refine vn ?_
       refine vn ?_
       refine vy a_pick ?_
       refine vy a_move ?_
       refine vn ?_
       refine vn ?_
       refine vn ?_
       refine vn ?_
       refine vn ?_
       refine vy a_pick ?_
       refine vy a_assign ?_
       refine vl_nil ?_
       refine vc_ret ?_
       refine fin ?_
       simp only [fitsL, fits, C.asD, and_true]
       all_goals (refine scb ?_; clear hx0; cases x; cases y; simp_all)
     · -- guard no
      refine vn ?_
      refine vn ?_
      refine vn ?_
      refine vn ?_
      refine vn ?_
      refine vy a_pick ?_
      refine vy a_move ?_
      refine vn ?_
      refine vn ?_
      refine vn ?_
      refine vn ?_
      refine vn ?_
      refine vy a_pick ?_
      refine vy a_move ?_
      refine vn ?_
      refine vn ?_
      refine vn ?_
      refine vn ?_
      refine vn ?_
      refine vy a_pick ?_
      refine vy a_assign ?_
      refine vl_nil ?_
      refine vc_ret ?_
      refine fin ?_
      simp only [fitsL, fits, C.asD, and_true]
      all_goals (refine scb ?_; clear hx0; cases x; cases y; simp_all)
    · -- guard no
     refine vn ?_
     refine vn ?_
     refine vn ?_
     refine vn ?_
     refine vn ?_
     refine vy a_pick ?_
     refine vy a_move ?_
     refine vn ?_
     refine vn ?_
     refine vn ?_
     refine vn ?_
     refine vn ?_
     refine vy a_pick ?_
     refine vy a_move ?_
     refine vn ?_
     refine vn ?_
     refine vn ?_
     refine vn ?_
     refine vn ?_
     refine vy a_pick ?_
     refine vy a_move ?_
     refine vn ?_
     refine vn ?_
     refine vn ?_
     refine vn ?_
     refine vn ?_
     refine vy a_pick ?_
     refine vy a_assign ?_
     refine vl_nil ?_
     refine vc_ret ?_
     refine fin ?_
     simp only [fitsL, fits, C.asD, and_true]
     all_goals (refine scb ?_; clear hx0; cases x; cases y; simp_all)
   · -- guard no
    refine vn ?_
    refine vn ?_
    refine vn ?_
    refine vn ?_
    refine vn ?_
    refine vy a_pick ?_
    refine vy a_move ?_
    refine vn ?_
    refine vn ?_
    refine vn ?_
    refine vn ?_
    refine vn ?_
    refine vy a_pick ?_
    refine vy a_move ?_
    refine vn ?_
    refine vn ?_
    refine vn ?_
    refine vn ?_
    refine vn ?_
    refine vy a_pick ?_
    refine vy a_move ?_
    refine vn ?_
    refine vn ?_
    refine vn ?_
    refine vn ?_
    refine vn ?_
    refine vy a_pick ?_
    refine vy a_move ?_
    refine vn ?_
    refine vn ?_
    refine vn ?_
    refine vn ?_
    refine vn ?_
    refine vy a_pick ?_
    refine vy a_assign ?_
    refine vl_nil ?_
    refine vc_ret ?_
    refine fin ?_
    simp only [fitsL, fits, C.asD, and_true]
    all_goals (refine scb ?_; clear hx0; cases x; cases y; simp_all)
  · -- guard no
   refine vn ?_
   refine vn ?_
   refine vn ?_
   refine vn ?_
   refine vn ?_
   refine vy a_pick ?_
   refine vy a_move ?_
   refine vn ?_
   refine vn ?_
   refine vn ?_
   refine vn ?_
   refine vn ?_
   refine vy a_pick ?_
   refine vy a_move ?_
   refine vn ?_
   refine vn ?_
   refine vn ?_
   refine vn ?_
   refine vn ?_
   refine vy a_pick ?_
   refine vy a_move ?_
   refine vn ?_
   refine vn ?_
   refine vn ?_
   refine vn ?_
   refine vn ?_
   refine vy a_pick ?_
   refine vy a_move ?_
   refine vn ?_
   refine vn ?_
   refine vn ?_
   refine vn ?_
   refine vn ?_
   refine vy a_pick ?_
   refine vy a_move ?_
   refine vn ?_
   refine vn ?_
   refine vn ?_
   refine vn ?_
   refine vn ?_
   refine vy a_pick ?_
   refine vy a_assign ?_
   refine vl_nil ?_
   refine vc_ret ?_
   refine fin ?_
   simp only [fitsL, fits, C.asD, and_true]
   all_goals (refine scb ?_; clear hx0; cases x; cases y; simp_all)
 · -- guard no
  refine vn ?_
  refine vn ?_
  refine vn ?_
  refine vn ?_
  refine vn ?_
  refine vy a_pick ?_
  refine vy a_move ?_
  refine vn ?_
  refine vn ?_
  refine vn ?_
  refine vn ?_
  refine vn ?_
  refine vy a_pick ?_
  refine vy a_move ?_
  refine vn ?_
  refine vn ?_
  refine vn ?_
  refine vn ?_
  refine vn ?_
  refine vy a_pick ?_
  refine vy a_move ?_
  refine vn ?_
  refine vn ?_
  refine vn ?_
  refine vn ?_
  refine vn ?_
  refine vy a_pick ?_
  refine vy a_move ?_
  refine vn ?_
  refine vn ?_
  refine vn ?_
  refine vn ?_
  refine vn ?_
  refine vy a_pick ?_
  refine vy a_move ?_
  refine vn ?_
  refine vn ?_
  refine vn ?_
  refine vn ?_
  refine vn ?_
  refine vy a_pick ?_
  refine vy a_move ?_
  refine vn ?_
  refine vn ?_
  refine vn ?_
  refine vn ?_
  refine vn ?_
  refine vy a_pick ?_
  refine vy a_assign ?_
  refine vl_nil ?_
  refine vc_ret ?_
  refine fin ?_
  simp only [fitsL, fits, C.asD, and_true]
  all_goals (refine scb ?_; clear hx0; cases x; cases y; simp_all)

set_option maxHeartbeats 1000000 in
theorem refLensSame_any (x y : LensD) (hx0 : okX x) : Contract Try.prog 31 [lD x, lD y] [.d (.sc (.bool (decide (x = y))))] := by
 refine fn_of (N := 59) [.tmp 4] Try.func31 ?_
 simp only [envUp, Nat.zero_add, Nat.reduceAdd]
 refine vc_then ?_
 refine vc_region ?_
 refine vs b_box ?_
 refine vs b_box ?_
 refine vy a_assign ?_
 refine vl_nil ?_
 refine vc_then ?_
 refine vc_region ?_
 first | refine vy (a_fr (hf := T.fo_30_0)) ?_ | refine vy (a_fa (hf := T.fo_30_0)) ?_
 first | refine vy (k_ldr T.ts_3) ?_ | refine vy (k_lda T.ts_3) ?_
 first | refine vy (a_fr (hf := T.fo_30_0)) ?_ | refine vy (a_fa (hf := T.fo_30_0)) ?_
 first | refine vy (k_ldr T.ts_3) ?_ | refine vy (k_lda T.ts_3) ?_
 refine vy (a_bin (hr := by first | exact pr_eql | exact pr_eqs | exact pr_eqb Try.underlying3)) ?_
 refine vy a_move ?_
 refine vb 10 (fun hg1 => ?_) (fun hg1 => ?_)
 · -- guard yes
  first | refine vy (a_fr (hf := T.fo_30_1)) ?_ | refine vy (a_fa (hf := T.fo_30_1)) ?_
  first | refine vy (k_ldr T.ts_24) ?_ | refine vy (k_lda T.ts_24) ?_
  first | refine vy (a_fr (hf := T.fo_30_1)) ?_ | refine vy (a_fa (hf := T.fo_30_1)) ?_
  first | refine vy (k_ldr T.ts_24) ?_ | refine vy (k_lda T.ts_24) ?_
  refine vy eq_24 ?_
  refine vy a_pick ?_
  refine vy a_move ?_
  refine vb 17 (fun hg2 => ?_) (fun hg2 => ?_)
  · -- guard yes
   first | refine vy (a_fr (hf := T.fo_30_2)) ?_ | refine vy (a_fa (hf := T.fo_30_2)) ?_
   first | refine vy (k_ldr T.ts_9) ?_ | refine vy (k_lda T.ts_9) ?_
   first | refine vy (a_fr (hf := T.fo_30_2)) ?_ | refine vy (a_fa (hf := T.fo_30_2)) ?_
   first | refine vy (k_ldr T.ts_9) ?_ | refine vy (k_lda T.ts_9) ?_
   refine vy (a_bin (hr := by first | exact pr_eql | exact pr_eqs | exact pr_eqb Try.underlying9)) ?_
   refine vy a_pick ?_
   refine vy a_move ?_
   refine vb 24 (fun hg3 => ?_) (fun hg3 => ?_)
   · -- guard yes
    first | refine vy (a_fr (hf := T.fo_30_3)) ?_ | refine vy (a_fa (hf := T.fo_30_3)) ?_
    first | refine vy (k_ldr T.ts_9) ?_ | refine vy (k_lda T.ts_9) ?_
    first | refine vy (a_fr (hf := T.fo_30_3)) ?_ | refine vy (a_fa (hf := T.fo_30_3)) ?_
    first | refine vy (k_ldr T.ts_9) ?_ | refine vy (k_lda T.ts_9) ?_
    refine vy (a_bin (hr := by first | exact pr_eql | exact pr_eqs | exact pr_eqb Try.underlying9)) ?_
    refine vy a_pick ?_
    refine vy a_move ?_
    refine vb 31 (fun hg4 => ?_) (fun hg4 => ?_)
    · -- guard yes
     first | refine vy (a_fr (hf := T.fo_30_4)) ?_ | refine vy (a_fa (hf := T.fo_30_4)) ?_
     first | refine vy (k_ldr T.ts_2) ?_ | refine vy (k_lda T.ts_2) ?_
     first | refine vy (a_fr (hf := T.fo_30_4)) ?_ | refine vy (a_fa (hf := T.fo_30_4)) ?_
     first | refine vy (k_ldr T.ts_2) ?_ | refine vy (k_lda T.ts_2) ?_
     refine vy (a_bin (hr := by first | exact pr_eql | exact pr_eqs | exact pr_eqb Try.underlying2)) ?_
     refine vy a_pick ?_
     refine vy a_move ?_
     refine vb 38 (fun hg5 => ?_) (fun hg5 => ?_)
     · -- guard yes
      first | refine vy (a_fr (hf := T.fo_30_5)) ?_ | refine vy (a_fa (hf := T.fo_30_5)) ?_
      first | refine vy (k_ldr T.ts_27) ?_ | refine vy (k_lda T.ts_27) ?_
      first | refine vy (a_fr (hf := T.fo_30_5)) ?_ | refine vy (a_fa (hf := T.fo_30_5)) ?_
      first | refine vy (k_ldr T.ts_27) ?_ | refine vy (k_lda T.ts_27) ?_
      refine vy (a_call (hf := T.en_25) (hc := by exact refFieldSame_any _ _ (by first | assumption | exact hx0.1))) ?_
      refine vy a_pick ?_
      refine vy a_move ?_
      refine vb 45 (fun hg6 => ?_) (fun hg6 => ?_)
      · -- guard yes
       first | refine vy (a_fr (hf := T.fo_30_6)) ?_ | refine vy (a_fa (hf := T.fo_30_6)) ?_
       first | refine vy (k_ldr T.ts_28) ?_ | refine vy (k_lda T.ts_28) ?_
       first | refine vy (a_fr (hf := T.fo_30_6)) ?_ | refine vy (a_fa (hf := T.fo_30_6)) ?_
       first | refine vy (k_ldr T.ts_28) ?_ | refine vy (k_lda T.ts_28) ?_
       refine vy (a_call (hf := T.en_95) (hc := by exact refSamePairs_any _ _ (by first | assumption | exact hx0.2.1 | exact hx0.2.2))) ?_
       refine vy a_pick ?_
       refine vy a_move ?_
       refine vb 52 (fun hg7 => ?_) (fun hg7 => ?_)
       · -- guard yes
        first | refine vy (a_fr (hf := T.fo_30_7)) ?_ | refine vy (a_fa (hf := T.fo_30_7)) ?_
        first | refine vy (k_ldr T.ts_28) ?_ | refine vy (k_lda T.ts_28) ?_
        first | refine vy (a_fr (hf := T.fo_30_7)) ?_ | refine vy (a_fa (hf := T.fo_30_7)) ?_
        first | refine vy (k_ldr T.ts_28) ?_ | refine vy (k_lda T.ts_28) ?_
        refine vy (a_call (hf := T.en_95) (hc := by exact refSamePairs_any _ _ (by first | assumption | exact hx0.2.1 | exact hx0.2.2))) ?_
        refine vy a_pick ?_
        refine vy a_assign ?_
        refine vl_nil ?_
        refine vc_ret ?_
        refine fin ?_
        simp only [fitsL, fits, C.asD, and_true]
        all_goals (refine scb ?_; clear hx0; cases x; cases y; simp_all)
       · -- guard no
        refine vn ?_
        refine vn ?_
        refine vn ?_
        refine vn ?_
        refine vn ?_
        refine vy a_pick ?_
        refine vy a_assign ?_
        refine vl_nil ?_
        refine vc_ret ?_
        refine fin ?_
        simp only [fitsL, fits, C.asD, and_true]
        all_goals (refine scb ?_; clear hx0; cases x; cases y; simp_all)
      · -- guard no
       refine vn ?_
       refine vn ?_
       refine vn ?_
       refine vn ?_
       refine vn ?_
       refine vy a_pick ?_
       refine vy a_move ?_
       refine vn ?_
       refine vn ?_
       refine vn ?_
       refine vn ?_
       refine vn ?_
       refine vy a_pick ?_
       refine vy a_assign ?_
       refine vl_nil ?_
       refine vc_ret ?_
       refine fin ?_
       simp only [fitsL, fits, C.asD, and_true]
       all_goals (refine scb ?_; clear hx0; cases x; cases y; simp_all)
     · -- guard no
      refine vn ?_
      refine vn ?_
      refine vn ?_
      refine vn ?_
      refine vn ?_
      refine vy a_pick ?_
      refine vy a_move ?_
      refine vn ?_
      refine vn ?_
      refine vn ?_
      refine vn ?_
      refine vn ?_
      refine vy a_pick ?_
      refine vy a_move ?_
      refine vn ?_
      refine vn ?_
      refine vn ?_
      refine vn ?_
      refine vn ?_
      refine vy a_pick ?_
      refine vy a_assign ?_
      refine vl_nil ?_
      refine vc_ret ?_
      refine fin ?_
      simp only [fitsL, fits, C.asD, and_true]
      all_goals (refine scb ?_; clear hx0; cases x; cases y; simp_all)
    · -- guard no
     refine vn ?_
     refine vn ?_
     refine vn ?_
     refine vn ?_
     refine vn ?_
     refine vy a_pick ?_
     refine vy a_move ?_
     refine vn ?_
     refine vn ?_
     refine vn ?_
     refine vn ?_
     refine vn ?_
     refine vy a_pick ?_
     refine vy a_move ?_
     refine vn ?_
     refine vn ?_
     refine vn ?_
     refine vn ?_
     refine vn ?_
     refine vy a_pick ?_
     refine vy a_move ?_
     refine vn ?_
     refine vn ?_
     refine vn ?_
     refine vn ?_
     refine vn ?_
     refine vy a_pick ?_
     refine vy a_assign ?_
     refine vl_nil ?_
     refine vc_ret ?_
     refine fin ?_
     simp only [fitsL, fits, C.asD, and_true]
     all_goals (refine scb ?_; clear hx0; cases x; cases y; simp_all)
   · -- guard no
    refine vn ?_
    refine vn ?_
    refine vn ?_
    refine vn ?_
    refine vn ?_
    refine vy a_pick ?_
    refine vy a_move ?_
    refine vn ?_
    refine vn ?_
    refine vn ?_
    refine vn ?_
    refine vn ?_
    refine vy a_pick ?_
    refine vy a_move ?_
    refine vn ?_
    refine vn ?_
    refine vn ?_
    refine vn ?_
    refine vn ?_
    refine vy a_pick ?_
    refine vy a_move ?_
    refine vn ?_
    refine vn ?_
    refine vn ?_
    refine vn ?_
    refine vn ?_
    refine vy a_pick ?_
    refine vy a_move ?_
    refine vn ?_
    refine vn ?_
    refine vn ?_
    refine vn ?_
    refine vn ?_
    refine vy a_pick ?_
    refine vy a_assign ?_
    refine vl_nil ?_
    refine vc_ret ?_
    refine fin ?_
    simp only [fitsL, fits, C.asD, and_true]
    all_goals (refine scb ?_; clear hx0; cases x; cases y; simp_all)
  · -- guard no
   refine vn ?_
   refine vn ?_
   refine vn ?_
   refine vn ?_
   refine vn ?_
   refine vy a_pick ?_
   refine vy a_move ?_
   refine vn ?_
   refine vn ?_
   refine vn ?_
   refine vn ?_
   refine vn ?_
   refine vy a_pick ?_
   refine vy a_move ?_
   refine vn ?_
   refine vn ?_
   refine vn ?_
   refine vn ?_
   refine vn ?_
   refine vy a_pick ?_
   refine vy a_move ?_
   refine vn ?_
   refine vn ?_
   refine vn ?_
   refine vn ?_
   refine vn ?_
   refine vy a_pick ?_
   refine vy a_move ?_
   refine vn ?_
   refine vn ?_
   refine vn ?_
   refine vn ?_
   refine vn ?_
   refine vy a_pick ?_
   refine vy a_move ?_
   refine vn ?_
   refine vn ?_
   refine vn ?_
   refine vn ?_
   refine vn ?_
   refine vy a_pick ?_
   refine vy a_assign ?_
   refine vl_nil ?_
   refine vc_ret ?_
   refine fin ?_
   simp only [fitsL, fits, C.asD, and_true]
   all_goals (refine scb ?_; clear hx0; cases x; cases y; simp_all)
 · -- guard no
  refine vn ?_
  refine vn ?_
  refine vn ?_
  refine vn ?_
  refine vn ?_
  refine vy a_pick ?_
  refine vy a_move ?_
  refine vn ?_
  refine vn ?_
  refine vn ?_
  refine vn ?_
  refine vn ?_
  refine vy a_pick ?_
  refine vy a_move ?_
  refine vn ?_
  refine vn ?_
  refine vn ?_
  refine vn ?_
  refine vn ?_
  refine vy a_pick ?_
  refine vy a_move ?_
  refine vn ?_
  refine vn ?_
  refine vn ?_
  refine vn ?_
  refine vn ?_
  refine vy a_pick ?_
  refine vy a_move ?_
  refine vn ?_
  refine vn ?_
  refine vn ?_
  refine vn ?_
  refine vn ?_
  refine vy a_pick ?_
  refine vy a_move ?_
  refine vn ?_
  refine vn ?_
  refine vn ?_
  refine vn ?_
  refine vn ?_
  refine vy a_pick ?_
  refine vy a_move ?_
  refine vn ?_
  refine vn ?_
  refine vn ?_
  refine vn ?_
  refine vn ?_
  refine vy a_pick ?_
  refine vy a_assign ?_
  refine vl_nil ?_
  refine vc_ret ?_
  refine fin ?_
  simp only [fitsL, fits, C.asD, and_true]
  all_goals (refine scb ?_; clear hx0; cases x; cases y; simp_all)
end Go.Vm
