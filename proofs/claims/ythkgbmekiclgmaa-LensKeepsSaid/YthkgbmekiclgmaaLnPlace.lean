/- The walks of places. Printed by lens_field.py. -/
import Derived.Test.YthkgbmekiclgmaaLnName
namespace Go.Vm
open Go.RowKit Go.Proofs
set_option linter.unusedVariables false
set_option linter.unusedSimpArgs false
set_option maxRecDepth 10000

set_option maxHeartbeats 1000000 in
theorem less_any (a b : RefD) : Contract Try.prog 76 [rD a, rD b] [.d (.sc (.bool (lessB a b)))] := by
 refine fn_of (N := 30) [.tmp 4] Try.func76 ?_
 simp only [envUp, Nat.zero_add, Nat.reduceAdd]
 refine vc_then ?_
 refine vc_region ?_
 refine vs b_box ?_
 refine vs b_box ?_
 refine vy a_assign ?_
 refine vl_nil ?_
 refine vc_then ?_
 refine vc_then ?_
 refine vc_region ?_
 first | refine vy (a_fr (hf := T.fo_24_0)) ?_ | refine vy (a_fa (hf := T.fo_24_0)) ?_
 first | refine vy (k_ldr T.ts_3) ?_ | refine vy (k_lda T.ts_3) ?_
 first | refine vy (a_fr (hf := T.fo_24_0)) ?_ | refine vy (a_fa (hf := T.fo_24_0)) ?_
 first | refine vy (k_ldr T.ts_3) ?_ | refine vy (k_lda T.ts_3) ?_
 refine vy (a_bin (hr := by first | exact pr_neq | exact pr_nes | exact pr_neb Try.underlying3)) ?_
 refine vl_nil ?_
 refine vif (fun hc1 => ?_) (fun hc1 => ?_)
 · -- yes
  refine vc_then ?_
  refine vc_region ?_
  first | refine vy (a_fr (hf := T.fo_24_0)) ?_ | refine vy (a_fa (hf := T.fo_24_0)) ?_
  first | refine vy (k_ldr T.ts_3) ?_ | refine vy (k_lda T.ts_3) ?_
  first | refine vy (a_fr (hf := T.fo_24_0)) ?_ | refine vy (a_fa (hf := T.fo_24_0)) ?_
  first | refine vy (k_ldr T.ts_3) ?_ | refine vy (k_lda T.ts_3) ?_
  refine vy (a_bin (hr := by first | exact pr_lss | exact pr_lts)) ?_
  refine vy a_assign ?_
  refine vl_nil ?_
  refine vc_ret ?_
  refine fin ?_
  simp only [fitsL, fits, C.asD, and_true]
  all_goals (refine scb ?_; simp_all [lessB, ltB])
 · -- no
  refine vc_skip ?_
  refine vc_then ?_
  refine vc_then ?_
  refine vc_region ?_
  first | refine vy (a_fr (hf := T.fo_24_1)) ?_ | refine vy (a_fa (hf := T.fo_24_1)) ?_
  first | refine vy (k_ldr T.ts_9) ?_ | refine vy (k_lda T.ts_9) ?_
  first | refine vy (a_fr (hf := T.fo_24_1)) ?_ | refine vy (a_fa (hf := T.fo_24_1)) ?_
  first | refine vy (k_ldr T.ts_9) ?_ | refine vy (k_lda T.ts_9) ?_
  refine vy (a_bin (hr := by first | exact pr_neq | exact pr_nes | exact pr_neb Try.underlying9)) ?_
  refine vl_nil ?_
  refine vif (fun hc2 => ?_) (fun hc2 => ?_)
  · -- yes
   refine vc_then ?_
   refine vc_region ?_
   first | refine vy (a_fr (hf := T.fo_24_1)) ?_ | refine vy (a_fa (hf := T.fo_24_1)) ?_
   first | refine vy (k_ldr T.ts_9) ?_ | refine vy (k_lda T.ts_9) ?_
   first | refine vy (a_fr (hf := T.fo_24_1)) ?_ | refine vy (a_fa (hf := T.fo_24_1)) ?_
   first | refine vy (k_ldr T.ts_9) ?_ | refine vy (k_lda T.ts_9) ?_
   refine vy (a_bin (hr := by first | exact pr_lss | exact pr_lts)) ?_
   refine vy a_assign ?_
   refine vl_nil ?_
   refine vc_ret ?_
   refine fin ?_
   simp only [fitsL, fits, C.asD, and_true]
   all_goals (refine scb ?_; simp_all [lessB, ltB])
  · -- no
   refine vc_skip ?_
   refine vc_then ?_
   refine vc_region ?_
   first | refine vy (a_fr (hf := T.fo_24_2)) ?_ | refine vy (a_fa (hf := T.fo_24_2)) ?_
   first | refine vy (k_ldr T.ts_9) ?_ | refine vy (k_lda T.ts_9) ?_
   first | refine vy (a_fr (hf := T.fo_24_2)) ?_ | refine vy (a_fa (hf := T.fo_24_2)) ?_
   first | refine vy (k_ldr T.ts_9) ?_ | refine vy (k_lda T.ts_9) ?_
   refine vy (a_bin (hr := by first | exact pr_lss | exact pr_lts)) ?_
   refine vy a_assign ?_
   refine vl_nil ?_
   refine vc_ret ?_
   refine fin ?_
   simp only [fitsL, fits, C.asD, and_true]
   all_goals (refine scb ?_; simp_all [lessB, ltB])

set_option maxHeartbeats 1000000 in
theorem refLess_any (a b : RefD) : Contract Try.prog 78 [rD a, rD b] [.d (.sc (.bool (lessB a b)))] := by
 refine fn_of (N := 30) [.tmp 4] Try.func78 ?_
 simp only [envUp, Nat.zero_add, Nat.reduceAdd]
 refine vc_then ?_
 refine vc_region ?_
 refine vs b_box ?_
 refine vs b_box ?_
 refine vy a_assign ?_
 refine vl_nil ?_
 refine vc_then ?_
 refine vc_then ?_
 refine vc_region ?_
 first | refine vy (a_fr (hf := T.fo_24_0)) ?_ | refine vy (a_fa (hf := T.fo_24_0)) ?_
 first | refine vy (k_ldr T.ts_3) ?_ | refine vy (k_lda T.ts_3) ?_
 first | refine vy (a_fr (hf := T.fo_24_0)) ?_ | refine vy (a_fa (hf := T.fo_24_0)) ?_
 first | refine vy (k_ldr T.ts_3) ?_ | refine vy (k_lda T.ts_3) ?_
 refine vy (a_bin (hr := by first | exact pr_neq | exact pr_nes | exact pr_neb Try.underlying3)) ?_
 refine vl_nil ?_
 refine vif (fun hc1 => ?_) (fun hc1 => ?_)
 · -- yes
  refine vc_then ?_
  refine vc_region ?_
  first | refine vy (a_fr (hf := T.fo_24_0)) ?_ | refine vy (a_fa (hf := T.fo_24_0)) ?_
  first | refine vy (k_ldr T.ts_3) ?_ | refine vy (k_lda T.ts_3) ?_
  first | refine vy (a_fr (hf := T.fo_24_0)) ?_ | refine vy (a_fa (hf := T.fo_24_0)) ?_
  first | refine vy (k_ldr T.ts_3) ?_ | refine vy (k_lda T.ts_3) ?_
  refine vy (a_bin (hr := by first | exact pr_lss | exact pr_lts)) ?_
  refine vy a_assign ?_
  refine vl_nil ?_
  refine vc_ret ?_
  refine fin ?_
  simp only [fitsL, fits, C.asD, and_true]
  all_goals (refine scb ?_; simp_all [lessB, ltB])
 · -- no
  refine vc_skip ?_
  refine vc_then ?_
  refine vc_then ?_
  refine vc_region ?_
  first | refine vy (a_fr (hf := T.fo_24_1)) ?_ | refine vy (a_fa (hf := T.fo_24_1)) ?_
  first | refine vy (k_ldr T.ts_9) ?_ | refine vy (k_lda T.ts_9) ?_
  first | refine vy (a_fr (hf := T.fo_24_1)) ?_ | refine vy (a_fa (hf := T.fo_24_1)) ?_
  first | refine vy (k_ldr T.ts_9) ?_ | refine vy (k_lda T.ts_9) ?_
  refine vy (a_bin (hr := by first | exact pr_neq | exact pr_nes | exact pr_neb Try.underlying9)) ?_
  refine vl_nil ?_
  refine vif (fun hc2 => ?_) (fun hc2 => ?_)
  · -- yes
   refine vc_then ?_
   refine vc_region ?_
   first | refine vy (a_fr (hf := T.fo_24_1)) ?_ | refine vy (a_fa (hf := T.fo_24_1)) ?_
   first | refine vy (k_ldr T.ts_9) ?_ | refine vy (k_lda T.ts_9) ?_
   first | refine vy (a_fr (hf := T.fo_24_1)) ?_ | refine vy (a_fa (hf := T.fo_24_1)) ?_
   first | refine vy (k_ldr T.ts_9) ?_ | refine vy (k_lda T.ts_9) ?_
   refine vy (a_bin (hr := by first | exact pr_lss | exact pr_lts)) ?_
   refine vy a_assign ?_
   refine vl_nil ?_
   refine vc_ret ?_
   refine fin ?_
   simp only [fitsL, fits, C.asD, and_true]
   all_goals (refine scb ?_; simp_all [lessB, ltB])
  · -- no
   refine vc_skip ?_
   refine vc_then ?_
   refine vc_region ?_
   first | refine vy (a_fr (hf := T.fo_24_2)) ?_ | refine vy (a_fa (hf := T.fo_24_2)) ?_
   first | refine vy (k_ldr T.ts_9) ?_ | refine vy (k_lda T.ts_9) ?_
   first | refine vy (a_fr (hf := T.fo_24_2)) ?_ | refine vy (a_fa (hf := T.fo_24_2)) ?_
   first | refine vy (k_ldr T.ts_9) ?_ | refine vy (k_lda T.ts_9) ?_
   refine vy (a_bin (hr := by first | exact pr_lss | exact pr_lts)) ?_
   refine vy a_assign ?_
   refine vl_nil ?_
   refine vc_ret ?_
   refine fin ?_
   simp only [fitsL, fits, C.asD, and_true]
   all_goals (refine scb ?_; simp_all [lessB, ltB])

set_option maxHeartbeats 1000000 in
theorem place_any (r : RefD) : Contract Try.prog 88 [rD r] [.d (.sc (.bool (placeB r)))] := by
 refine fn_of (N := 24) [.tmp 2] Try.func88 ?_
 simp only [envUp, Nat.zero_add, Nat.reduceAdd]
 refine vc_then ?_
 refine vc_region ?_
 refine vs b_box ?_
 refine vy a_assign ?_
 refine vl_nil ?_
 refine vc_then ?_
 refine vc_then ?_
 refine vc_region ?_
 first | refine vy (a_fr (hf := T.fo_24_0)) ?_ | refine vy (a_fa (hf := T.fo_24_0)) ?_
 first | refine vy (k_ldr T.ts_3) ?_ | refine vy (k_lda T.ts_3) ?_
 refine vy (a_bin (hr := by first | exact pr_neq | exact pr_nes | exact pr_neb Try.underlying3)) ?_
 refine vy a_move ?_
 refine vb 6 (fun hg1 => ?_) (fun hg1 => ?_)
 · -- guard yes
  first | refine vy (a_fr (hf := T.fo_24_0)) ?_ | refine vy (a_fa (hf := T.fo_24_0)) ?_
  first | refine vy (k_ldr T.ts_3) ?_ | refine vy (k_lda T.ts_3) ?_
  refine vy (a_bin (hr := by first | exact pr_neq | exact pr_nes | exact pr_neb Try.underlying3)) ?_
  refine vy a_pick ?_
  refine vl_nil ?_
  refine vif (fun hc2 => ?_) (fun hc2 => ?_)
  · -- yes
   refine vc_then ?_
   refine vc_region ?_
   refine vy a_assign ?_
   refine vl_nil ?_
   refine vc_ret ?_
   refine fin ?_
   simp only [fitsL, fits, C.asD, and_true]
   all_goals (refine scb ?_; rcases (show r.scope = 0 ∨ r.scope = 1 ∨ (r.scope ≠ 0 ∧ r.scope ≠ 1) by omega) with h | h | h <;> simp_all [placeB, emp] <;> omega)
  · -- no
   refine vc_skip ?_
   refine vc_then ?_
   refine vc_region ?_
   first | refine vy (a_fr (hf := T.fo_24_2)) ?_ | refine vy (a_fa (hf := T.fo_24_2)) ?_
   first | refine vy (k_ldr T.ts_9) ?_ | refine vy (k_lda T.ts_9) ?_
   refine vy (a_call (hf := T.en_89) (hc := by exact name_any _)) ?_
   refine vy a_move ?_
   refine vb 14 (fun hg3 => ?_) (fun hg3 => ?_)
   · -- guard yes
    first | refine vy (a_fr (hf := T.fo_24_1)) ?_ | refine vy (a_fa (hf := T.fo_24_1)) ?_
    first | refine vy (k_ldr T.ts_9) ?_ | refine vy (k_lda T.ts_9) ?_
    refine vy (a_bin (hr := by first | exact pr_eql | exact pr_eqs | exact pr_eqb Try.underlying9)) ?_
    refine vy a_move ?_
    refine vb 18 (fun hg4 => ?_) (fun hg4 => ?_)
    · -- guard yes
     refine vn ?_
     refine vn ?_
     refine vn ?_
     refine vy a_pick ?_
     refine vy a_pick ?_
     refine vy a_assign ?_
     refine vl_nil ?_
     refine vc_ret ?_
     refine fin ?_
     simp only [fitsL, fits, C.asD, and_true]
     all_goals (refine scb ?_; rcases (show r.scope = 0 ∨ r.scope = 1 ∨ (r.scope ≠ 0 ∧ r.scope ≠ 1) by omega) with h | h | h <;> simp_all [placeB, emp] <;> omega)
    · -- guard no
     first | refine vy (a_fr (hf := T.fo_24_1)) ?_ | refine vy (a_fa (hf := T.fo_24_1)) ?_
     first | refine vy (k_ldr T.ts_9) ?_ | refine vy (k_lda T.ts_9) ?_
     refine vy (a_call (hf := T.en_89) (hc := by exact name_any _)) ?_
     refine vy a_pick ?_
     refine vy a_pick ?_
     refine vy a_assign ?_
     refine vl_nil ?_
     refine vc_ret ?_
     refine fin ?_
     simp only [fitsL, fits, C.asD, and_true]
     all_goals (refine scb ?_; rcases (show r.scope = 0 ∨ r.scope = 1 ∨ (r.scope ≠ 0 ∧ r.scope ≠ 1) by omega) with h | h | h <;> simp_all [placeB, emp] <;> omega)
   · -- guard no
    refine vn ?_
    refine vn ?_
    refine vn ?_
    refine vn ?_
    refine vn ?_
    refine vn ?_
    refine vn ?_
    refine vn ?_
    refine vy a_pick ?_
    refine vy a_assign ?_
    refine vl_nil ?_
    refine vc_ret ?_
    refine fin ?_
    simp only [fitsL, fits, C.asD, and_true]
    all_goals (refine scb ?_; rcases (show r.scope = 0 ∨ r.scope = 1 ∨ (r.scope ≠ 0 ∧ r.scope ≠ 1) by omega) with h | h | h <;> simp_all [placeB, emp] <;> omega)
 · -- guard no
  refine vn ?_
  refine vn ?_
  refine vn ?_
  refine vy a_pick ?_
  refine vl_nil ?_
  refine vif (fun hc5 => ?_) (fun hc5 => ?_)
  · -- yes
   first | (exfalso; have hdead := hc5; simp at hdead <;> omega) | (exfalso; simp_all; done)
  · -- no
   refine vc_skip ?_
   refine vc_then ?_
   refine vc_region ?_
   first | refine vy (a_fr (hf := T.fo_24_2)) ?_ | refine vy (a_fa (hf := T.fo_24_2)) ?_
   first | refine vy (k_ldr T.ts_9) ?_ | refine vy (k_lda T.ts_9) ?_
   refine vy (a_call (hf := T.en_89) (hc := by exact name_any _)) ?_
   refine vy a_move ?_
   refine vb 14 (fun hg6 => ?_) (fun hg6 => ?_)
   · -- guard yes
    first | refine vy (a_fr (hf := T.fo_24_1)) ?_ | refine vy (a_fa (hf := T.fo_24_1)) ?_
    first | refine vy (k_ldr T.ts_9) ?_ | refine vy (k_lda T.ts_9) ?_
    refine vy (a_bin (hr := by first | exact pr_eql | exact pr_eqs | exact pr_eqb Try.underlying9)) ?_
    refine vy a_move ?_
    refine vb 18 (fun hg7 => ?_) (fun hg7 => ?_)
    · -- guard yes
     refine vn ?_
     refine vn ?_
     refine vn ?_
     refine vy a_pick ?_
     refine vy a_pick ?_
     refine vy a_assign ?_
     refine vl_nil ?_
     refine vc_ret ?_
     refine fin ?_
     simp only [fitsL, fits, C.asD, and_true]
     all_goals (refine scb ?_; rcases (show r.scope = 0 ∨ r.scope = 1 ∨ (r.scope ≠ 0 ∧ r.scope ≠ 1) by omega) with h | h | h <;> simp_all [placeB, emp] <;> omega)
    · -- guard no
     first | refine vy (a_fr (hf := T.fo_24_1)) ?_ | refine vy (a_fa (hf := T.fo_24_1)) ?_
     first | refine vy (k_ldr T.ts_9) ?_ | refine vy (k_lda T.ts_9) ?_
     refine vy (a_call (hf := T.en_89) (hc := by exact name_any _)) ?_
     refine vy a_pick ?_
     refine vy a_pick ?_
     refine vy a_assign ?_
     refine vl_nil ?_
     refine vc_ret ?_
     refine fin ?_
     simp only [fitsL, fits, C.asD, and_true]
     all_goals (refine scb ?_; rcases (show r.scope = 0 ∨ r.scope = 1 ∨ (r.scope ≠ 0 ∧ r.scope ≠ 1) by omega) with h | h | h <;> simp_all [placeB, emp] <;> omega)
   · -- guard no
    refine vn ?_
    refine vn ?_
    refine vn ?_
    refine vn ?_
    refine vn ?_
    refine vn ?_
    refine vn ?_
    refine vn ?_
    refine vy a_pick ?_
    refine vy a_assign ?_
    refine vl_nil ?_
    refine vc_ret ?_
    refine fin ?_
    simp only [fitsL, fits, C.asD, and_true]
    all_goals (refine scb ?_; rcases (show r.scope = 0 ∨ r.scope = 1 ∨ (r.scope ≠ 0 ∧ r.scope ≠ 1) by omega) with h | h | h <;> simp_all [placeB, emp] <;> omega)

set_option maxHeartbeats 1000000 in
theorem refPlace_any (r : RefD) : Contract Try.prog 83 [rD r] [.d (.sc (.bool (placeB r)))] := by
 refine fn_of (N := 27) [.tmp 2] Try.func83 ?_
 simp only [envUp, Nat.zero_add, Nat.reduceAdd]
 refine vc_then ?_
 refine vc_region ?_
 refine vs b_box ?_
 refine vy a_assign ?_
 refine vl_nil ?_
 refine vc_then ?_
 refine vc_region ?_
 first | refine vy (a_fr (hf := T.fo_24_0)) ?_ | refine vy (a_fa (hf := T.fo_24_0)) ?_
 first | refine vy (k_ldr T.ts_3) ?_ | refine vy (k_lda T.ts_3) ?_
 refine vy (a_bin (hr := by first | exact pr_geq)) ?_
 refine vy a_move ?_
 refine vb 6 (fun hg1 => ?_) (fun hg1 => ?_)
 · -- guard yes
  first | refine vy (a_fr (hf := T.fo_24_0)) ?_ | refine vy (a_fa (hf := T.fo_24_0)) ?_
  first | refine vy (k_ldr T.ts_3) ?_ | refine vy (k_lda T.ts_3) ?_
  refine vy (a_bin (hr := by first | exact pr_leq)) ?_
  refine vy a_pick ?_
  refine vy a_move ?_
  refine vb 11 (fun hg2 => ?_) (fun hg2 => ?_)
  · -- guard yes
   first | refine vy (a_fr (hf := T.fo_24_2)) ?_ | refine vy (a_fa (hf := T.fo_24_2)) ?_
   first | refine vy (k_ldr T.ts_9) ?_ | refine vy (k_lda T.ts_9) ?_
   refine vy (a_call (hf := T.en_86) (hc := by exact refName_any _)) ?_
   refine vy a_pick ?_
   refine vy a_move ?_
   refine vb 16 (fun hg3 => ?_) (fun hg3 => ?_)
   · -- guard yes
    first | refine vy (a_fr (hf := T.fo_24_1)) ?_ | refine vy (a_fa (hf := T.fo_24_1)) ?_
    first | refine vy (k_ldr T.ts_9) ?_ | refine vy (k_lda T.ts_9) ?_
    refine vy (a_lens (hT := T.us_9)) ?_
    refine vy (a_bin (hr := by first | exact pr_eql | exact pr_eqs | exact pr_eqb Try.underlying3)) ?_
    refine vy a_move ?_
    refine vb 21 (fun hg4 => ?_) (fun hg4 => ?_)
    · -- guard yes
     refine vn ?_
     refine vn ?_
     refine vn ?_
     refine vy a_pick ?_
     refine vy a_pick ?_
     refine vy a_assign ?_
     refine vl_nil ?_
     refine vc_ret ?_
     refine fin ?_
     simp only [fitsL, fits, C.asD, and_true]
     all_goals (refine scb ?_; rcases (show r.scope = 0 ∨ r.scope = 1 ∨ (r.scope ≠ 0 ∧ r.scope ≠ 1) by omega) with h | h | h <;> simp_all [placeB, emp] <;> omega)
    · -- guard no
     first | refine vy (a_fr (hf := T.fo_24_1)) ?_ | refine vy (a_fa (hf := T.fo_24_1)) ?_
     first | refine vy (k_ldr T.ts_9) ?_ | refine vy (k_lda T.ts_9) ?_
     refine vy (a_call (hf := T.en_86) (hc := by exact refName_any _)) ?_
     refine vy a_pick ?_
     refine vy a_pick ?_
     refine vy a_assign ?_
     refine vl_nil ?_
     refine vc_ret ?_
     refine fin ?_
     simp only [fitsL, fits, C.asD, and_true]
     all_goals (refine scb ?_; rcases (show r.scope = 0 ∨ r.scope = 1 ∨ (r.scope ≠ 0 ∧ r.scope ≠ 1) by omega) with h | h | h <;> simp_all [placeB, emp] <;> omega)
   · -- guard no
    refine vn ?_
    refine vn ?_
    refine vn ?_
    refine vn ?_
    refine vn ?_
    refine vn ?_
    refine vn ?_
    refine vn ?_
    refine vn ?_
    refine vy a_pick ?_
    refine vy a_assign ?_
    refine vl_nil ?_
    refine vc_ret ?_
    refine fin ?_
    simp only [fitsL, fits, C.asD, and_true]
    all_goals (refine scb ?_; rcases (show r.scope = 0 ∨ r.scope = 1 ∨ (r.scope ≠ 0 ∧ r.scope ≠ 1) by omega) with h | h | h <;> simp_all [placeB, emp] <;> omega)
  · -- guard no
   refine vn ?_
   refine vn ?_
   refine vn ?_
   refine vy a_pick ?_
   refine vy a_move ?_
   refine vn ?_
   refine vn ?_
   refine vn ?_
   refine vn ?_
   refine vn ?_
   refine vn ?_
   refine vn ?_
   refine vn ?_
   refine vn ?_
   refine vy a_pick ?_
   refine vy a_assign ?_
   refine vl_nil ?_
   refine vc_ret ?_
   refine fin ?_
   simp only [fitsL, fits, C.asD, and_true]
   all_goals (refine scb ?_; rcases (show r.scope = 0 ∨ r.scope = 1 ∨ (r.scope ≠ 0 ∧ r.scope ≠ 1) by omega) with h | h | h <;> simp_all [placeB, emp] <;> omega)
 · -- guard no
  refine vn ?_
  refine vn ?_
  refine vn ?_
  refine vy a_pick ?_
  refine vy a_move ?_
  refine vn ?_
  refine vn ?_
  refine vn ?_
  refine vy a_pick ?_
  refine vy a_move ?_
  refine vn ?_
  refine vn ?_
  refine vn ?_
  refine vn ?_
  refine vn ?_
  refine vn ?_
  refine vn ?_
  refine vn ?_
  refine vn ?_
  refine vy a_pick ?_
  refine vy a_assign ?_
  refine vl_nil ?_
  refine vc_ret ?_
  refine fin ?_
  simp only [fitsL, fits, C.asD, and_true]
  all_goals (refine scb ?_; rcases (show r.scope = 0 ∨ r.scope = 1 ∨ (r.scope ≠ 0 ∧ r.scope ≠ 1) by omega) with h | h | h <;> simp_all [placeB, emp] <;> omega)
end Go.Vm
