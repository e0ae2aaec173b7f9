/- The walks of lenses. Printed by lens_lens.py. -/
import Derived.Test.YthkgbmekiclgmaaLnLensS
namespace Go.Vm
open Go.RowKit Go.Proofs
set_option linter.unusedVariables false
set_option linter.unusedSimpArgs false
set_option maxRecDepth 10000

theorem parts_a {x : LensD} (h : x.kind = 1 ∨ x.kind = 5) : partsL x = (⟨x.kind, x.at_, x.name, noB, 0, noField, [], []⟩, true) := by unfold partsL; rw [if_pos h]
theorem parts_b {x : LensD} (h : x.kind = 2 ∨ x.kind = 3) : partsL x = (⟨x.kind, noRef, noB, noB, 0, x.field, [], []⟩, true) := by unfold partsL; rw [if_neg (by omega), if_pos h]
theorem parts_c {x : LensD} (h : x.kind = 4) : partsL x = (⟨x.kind, x.at_, noB, noB, 0, noField, [], []⟩, true) := by unfold partsL; rw [if_neg (by omega), if_neg (by omega), if_pos h]
theorem parts_d {x : LensD} (h : x.kind = 6 ∨ x.kind = 9) : partsL x = (⟨x.kind, x.at_, x.name, x.other, x.factor, noField, [], []⟩, true) := by unfold partsL; rw [if_neg (by omega), if_neg (by omega), if_neg (by omega), if_pos h]
theorem parts_e {x : LensD} (h : x.kind = 7 ∨ x.kind = 10) : partsL x = (⟨x.kind, x.at_, noB, x.other, 0, noField, [], []⟩, true) := by unfold partsL; rw [if_neg (by omega), if_neg (by omega), if_neg (by omega), if_neg (by omega), if_pos h]
theorem parts_f {x : LensD} (h : x.kind = 8) : partsL x = (⟨x.kind, x.at_, x.name, x.other, 0, noField, x.forth, x.back⟩, true) := by unfold partsL; rw [if_neg (by omega), if_neg (by omega), if_neg (by omega), if_neg (by omega), if_neg (by omega), if_pos h]
theorem parts_g {x : LensD} (h : ¬ x.kind = 1 ∧ ¬ x.kind = 2 ∧ ¬ x.kind = 3 ∧ ¬ x.kind = 4 ∧ ¬ x.kind = 5 ∧ ¬ x.kind = 6 ∧ ¬ x.kind = 7 ∧ ¬ x.kind = 8 ∧ ¬ x.kind = 9 ∧ ¬ x.kind = 10) : partsL x = (noLens, false) := by unfold partsL; rw [if_neg (by omega), if_neg (by omega), if_neg (by omega), if_neg (by omega), if_neg (by omega), if_neg (by omega)]

set_option maxHeartbeats 1000000 in
theorem lensOwn_any (x : LensD) (hx0 : okX x) : Contract Try.prog 35 [lD x] [.d (lD x)] := by
 refine fn_of (N := 16) [.cell 2 30] Try.func35 ?_
 simp only [envUp, Nat.zero_add, Nat.reduceAdd]
 have hl1 := hx0.2.1
 have hl2 := hx0.2.2
 refine vc_then ?_
 refine vc_region ?_
 refine vs b_box ?_
 refine vs (b_alloc (hz := T.zo_30)) ?_
 refine vl_nil ?_
 refine vc_then ?_
 refine vc_region ?_
 first | refine vy (a_fr (hf := T.fo_30_5)) ?_ | refine vy (a_fa (hf := T.fo_30_5)) ?_
 first | refine vy (k_ldr T.ts_27) ?_ | refine vy (k_lda T.ts_27) ?_
 refine vy (a_call (hf := T.en_66) (hc := by exact fieldOwn_any _ (by first | assumption | exact hx0.1))) ?_
 first | refine vy (a_fr (hf := T.fo_30_5)) ?_ | refine vy (a_fa (hf := T.fo_30_5)) ?_
 refine vs (b_store T.ts_27) ?_
 refine vl_nil ?_
 refine vc_then ?_
 refine vc_region ?_
 first | refine vy (a_fr (hf := T.fo_30_6)) ?_ | refine vy (a_fa (hf := T.fo_30_6)) ?_
 first | refine vy (k_ldr T.ts_28) ?_ | refine vy (k_lda T.ts_28) ?_
 first | refine vs (b_app (hT := T.ef_28) (hw := by first | exact strs_wide | exact pairs_wide | exact rs_wide | exact fD_wide | (simp [D.cells])) (h63 := by unfold maxLen; (first | omega | (simp only [List.length_map, List.length_append, List.length_nil, List.length_cons]; omega))) (hby := by first | omega | (simp only [List.length_map, List.length_append, List.length_nil, List.length_cons]; omega)) (hzs := by first | rfl)) ?_ | refine vy (a_appn (hT := T.ef_28) (hw := by first | exact strs_wide | exact pairs_wide | exact rs_wide | exact fD_wide | (simp [D.cells])) (h63 := by unfold maxLen; (first | omega | (simp only [List.length_map, List.length_append, List.length_nil, List.length_cons]; omega))) (hby := by first | omega | (simp only [List.length_map, List.length_append, List.length_nil, List.length_cons]; omega))) ?_
 first | refine vy (a_fr (hf := T.fo_30_6)) ?_ | refine vy (a_fa (hf := T.fo_30_6)) ?_
 refine vs (b_store T.ts_28) ?_
 refine vl_nil ?_
 refine vc_then ?_
 refine vc_region ?_
 first | refine vy (a_fr (hf := T.fo_30_7)) ?_ | refine vy (a_fa (hf := T.fo_30_7)) ?_
 first | refine vy (k_ldr T.ts_28) ?_ | refine vy (k_lda T.ts_28) ?_
 first | refine vs (b_app (hT := T.ef_28) (hw := by first | exact strs_wide | exact pairs_wide | exact rs_wide | exact fD_wide | (simp [D.cells])) (h63 := by unfold maxLen; (first | omega | (simp only [List.length_map, List.length_append, List.length_nil, List.length_cons]; omega))) (hby := by first | omega | (simp only [List.length_map, List.length_append, List.length_nil, List.length_cons]; omega)) (hzs := by first | rfl)) ?_ | refine vy (a_appn (hT := T.ef_28) (hw := by first | exact strs_wide | exact pairs_wide | exact rs_wide | exact fD_wide | (simp [D.cells])) (h63 := by unfold maxLen; (first | omega | (simp only [List.length_map, List.length_append, List.length_nil, List.length_cons]; omega))) (hby := by first | omega | (simp only [List.length_map, List.length_append, List.length_nil, List.length_cons]; omega))) ?_
 first | refine vy (a_fr (hf := T.fo_30_7)) ?_ | refine vy (a_fa (hf := T.fo_30_7)) ?_
 refine vs (b_store T.ts_28) ?_
 refine vl_nil ?_
 refine vc_then ?_
 refine vc_region ?_
 first | refine vy (k_ldr T.ts_30) ?_ | refine vy (k_lda T.ts_30) ?_
 refine vs (b_store T.ts_30) ?_
 refine vl_nil ?_
 refine vc_ret ?_
 refine fin (hv := by simp only [vres, vres1, pd_all, List.length_cons, List.length_nil, Nat.reduceAdd, Nat.zero_add, Option.map_some, T.ts_30, strD, vget, vd, vc1, vconst, plainV, C.asD, conc, scs, Option.map_some, Option.map_none, ↓upd_get, ↓boxEnv_get, ↓spend_get, noEnv_get, ↓reduceIte, Nat.reduceEqDiff, reduceCtorEq, unref, demote, demoteC, slotV, ↓freshOf_get, fresh1_c, fresh1_at, fresh1_tup, fresh1_junk, ↓keep_get, keep_none]; rfl) ?_
 simp only [fitsL, fits, C.asD, and_true]
 all_goals (rfl)

set_option maxHeartbeats 1000000 in
theorem refLensHeavy_any (x : LensD) : Contract Try.prog 13 [lD x] [.d (.sc (.bool (heavyL x)))] := by
 refine fn_of (N := 42) [.tmp 2] Try.func13 ?_
 simp only [envUp, Nat.zero_add, Nat.reduceAdd]
 refine vc_then ?_
 refine vc_region ?_
 refine vs b_box ?_
 refine vy a_assign ?_
 refine vl_nil ?_
 refine vc_then ?_
 refine vc_region ?_
 first | refine vy (a_fr (hf := T.fo_30_1)) ?_ | refine vy (a_fa (hf := T.fo_30_1)) ?_
 first | refine vy (a_fr (hf := T.fo_24_1)) ?_ | refine vy (a_fa (hf := T.fo_24_1)) ?_
 first | refine vy (k_ldr T.ts_9) ?_ | refine vy (k_lda T.ts_9) ?_
 refine vy (a_lens (hT := T.us_9)) ?_
 refine vy (a_bin (hr := by first | exact pr_gtr)) ?_
 refine vy a_move ?_
 refine vb 8 (fun hg1 => ?_) (fun hg1 => ?_)
 · -- guard yes
  refine vn ?_
  refine vn ?_
  refine vn ?_
  refine vn ?_
  refine vn ?_
  refine vy a_pick ?_
  refine vy a_move ?_
  refine vn ?_
  refine vn ?_
  refine vn ?_
  refine vn ?_
  refine vy a_pick ?_
  refine vy a_move ?_
  refine vn ?_
  refine vn ?_
  refine vn ?_
  refine vn ?_
  refine vy a_pick ?_
  refine vy a_move ?_
  refine vn ?_
  refine vn ?_
  refine vn ?_
  refine vy a_pick ?_
  refine vy a_move ?_
  refine vn ?_
  refine vn ?_
  refine vn ?_
  refine vy a_pick ?_
  refine vy a_move ?_
  refine vn ?_
  refine vn ?_
  refine vn ?_
  refine vy a_pick ?_
  refine vy a_assign ?_
  refine vl_nil ?_
  refine vc_ret ?_
  refine fin ?_
  simp only [fitsL, fits, C.asD, and_true]
  all_goals (refine scb ?_; symm; unfold heavyL; first | (simp_all; done) | (simp_all <;> omega))
 · -- guard no
  first | refine vy (a_fr (hf := T.fo_30_1)) ?_ | refine vy (a_fa (hf := T.fo_30_1)) ?_
  first | refine vy (a_fr (hf := T.fo_24_2)) ?_ | refine vy (a_fa (hf := T.fo_24_2)) ?_
  first | refine vy (k_ldr T.ts_9) ?_ | refine vy (k_lda T.ts_9) ?_
  refine vy (a_lens (hT := T.us_9)) ?_
  refine vy (a_bin (hr := by first | exact pr_gtr)) ?_
  refine vy a_pick ?_
  refine vy a_move ?_
  refine vb 15 (fun hg2 => ?_) (fun hg2 => ?_)
  · -- guard yes
   refine vn ?_
   refine vn ?_
   refine vn ?_
   refine vn ?_
   refine vy a_pick ?_
   refine vy a_move ?_
   refine vn ?_
   refine vn ?_
   refine vn ?_
   refine vn ?_
   refine vy a_pick ?_
   refine vy a_move ?_
   refine vn ?_
   refine vn ?_
   refine vn ?_
   refine vy a_pick ?_
   refine vy a_move ?_
   refine vn ?_
   refine vn ?_
   refine vn ?_
   refine vy a_pick ?_
   refine vy a_move ?_
   refine vn ?_
   refine vn ?_
   refine vn ?_
   refine vy a_pick ?_
   refine vy a_assign ?_
   refine vl_nil ?_
   refine vc_ret ?_
   refine fin ?_
   simp only [fitsL, fits, C.asD, and_true]
   all_goals (refine scb ?_; symm; unfold heavyL; first | (simp_all; done) | (simp_all <;> omega))
  · -- guard no
   first | refine vy (a_fr (hf := T.fo_30_2)) ?_ | refine vy (a_fa (hf := T.fo_30_2)) ?_
   first | refine vy (k_ldr T.ts_9) ?_ | refine vy (k_lda T.ts_9) ?_
   refine vy (a_lens (hT := T.us_9)) ?_
   refine vy (a_bin (hr := by first | exact pr_gtr)) ?_
   refine vy a_pick ?_
   refine vy a_move ?_
   refine vb 21 (fun hg3 => ?_) (fun hg3 => ?_)
   · -- guard yes
    refine vn ?_
    refine vn ?_
    refine vn ?_
    refine vn ?_
    refine vy a_pick ?_
    refine vy a_move ?_
    refine vn ?_
    refine vn ?_
    refine vn ?_
    refine vy a_pick ?_
    refine vy a_move ?_
    refine vn ?_
    refine vn ?_
    refine vn ?_
    refine vy a_pick ?_
    refine vy a_move ?_
    refine vn ?_
    refine vn ?_
    refine vn ?_
    refine vy a_pick ?_
    refine vy a_assign ?_
    refine vl_nil ?_
    refine vc_ret ?_
    refine fin ?_
    simp only [fitsL, fits, C.asD, and_true]
    all_goals (refine scb ?_; symm; unfold heavyL; first | (simp_all; done) | (simp_all <;> omega))
   · -- guard no
    first | refine vy (a_fr (hf := T.fo_30_3)) ?_ | refine vy (a_fa (hf := T.fo_30_3)) ?_
    first | refine vy (k_ldr T.ts_9) ?_ | refine vy (k_lda T.ts_9) ?_
    refine vy (a_lens (hT := T.us_9)) ?_
    refine vy (a_bin (hr := by first | exact pr_gtr)) ?_
    refine vy a_pick ?_
    refine vy a_move ?_
    refine vb 27 (fun hg4 => ?_) (fun hg4 => ?_)
    · -- guard yes
     refine vn ?_
     refine vn ?_
     refine vn ?_
     refine vy a_pick ?_
     refine vy a_move ?_
     refine vn ?_
     refine vn ?_
     refine vn ?_
     refine vy a_pick ?_
     refine vy a_move ?_
     refine vn ?_
     refine vn ?_
     refine vn ?_
     refine vy a_pick ?_
     refine vy a_assign ?_
     refine vl_nil ?_
     refine vc_ret ?_
     refine fin ?_
     simp only [fitsL, fits, C.asD, and_true]
     all_goals (refine scb ?_; symm; unfold heavyL; first | (simp_all; done) | (simp_all <;> omega))
    · -- guard no
     first | refine vy (a_fr (hf := T.fo_30_5)) ?_ | refine vy (a_fa (hf := T.fo_30_5)) ?_
     first | refine vy (k_ldr T.ts_27) ?_ | refine vy (k_lda T.ts_27) ?_
     refine vy (a_call (hf := T.en_64) (hc := by exact refFieldHeavy_any _)) ?_
     refine vy a_pick ?_
     refine vy a_move ?_
     refine vb 32 (fun hg5 => ?_) (fun hg5 => ?_)
     · -- guard yes
      refine vn ?_
      refine vn ?_
      refine vn ?_
      refine vy a_pick ?_
      refine vy a_move ?_
      refine vn ?_
      refine vn ?_
      refine vn ?_
      refine vy a_pick ?_
      refine vy a_assign ?_
      refine vl_nil ?_
      refine vc_ret ?_
      refine fin ?_
      simp only [fitsL, fits, C.asD, and_true]
      all_goals (refine scb ?_; symm; unfold heavyL; first | (simp_all; done) | (simp_all <;> omega))
     · -- guard no
      first | refine vy (a_fr (hf := T.fo_30_6)) ?_ | refine vy (a_fa (hf := T.fo_30_6)) ?_
      first | refine vy (k_ldr T.ts_28) ?_ | refine vy (k_lda T.ts_28) ?_
      refine vy (a_call (hf := T.en_65) (hc := by exact heavyPairs_any _)) ?_
      refine vy a_pick ?_
      refine vy a_move ?_
      refine vb 37 (fun hg6 => ?_) (fun hg6 => ?_)
      · -- guard yes
       refine vn ?_
       refine vn ?_
       refine vn ?_
       refine vy a_pick ?_
       refine vy a_assign ?_
       refine vl_nil ?_
       refine vc_ret ?_
       refine fin ?_
       simp only [fitsL, fits, C.asD, and_true]
       all_goals (refine scb ?_; symm; unfold heavyL; first | (simp_all; done) | (simp_all <;> omega))
      · -- guard no
       first | refine vy (a_fr (hf := T.fo_30_7)) ?_ | refine vy (a_fa (hf := T.fo_30_7)) ?_
       first | refine vy (k_ldr T.ts_28) ?_ | refine vy (k_lda T.ts_28) ?_
       refine vy (a_call (hf := T.en_65) (hc := by exact heavyPairs_any _)) ?_
       refine vy a_pick ?_
       refine vy a_assign ?_
       refine vl_nil ?_
       refine vc_ret ?_
       refine fin ?_
       simp only [fitsL, fits, C.asD, and_true]
       all_goals (refine scb ?_; symm; unfold heavyL; first | (simp_all; done) | (simp_all <;> omega))

set_option maxHeartbeats 1000000 in
theorem parts_any (x : LensD) (hx0 : okX x) : Contract Try.prog 87 [lD x] [.d (lD (partsL x).1), .d (.sc (.bool ((partsL x).2)))] := by
 refine fn_of (N := 73) [.cell 2 30, .tmp 3] Try.func87 ?_
 simp only [envUp, Nat.zero_add, Nat.reduceAdd]
 refine vc_then ?_
 refine vc_region ?_
 refine vs b_box ?_
 refine vs (b_alloc (hz := T.zo_30)) ?_
 refine vy a_assign ?_
 refine vl_nil ?_
 refine vc_then ?_
 refine vc_region ?_
 first | refine vy (a_fr (hf := T.fo_30_0)) ?_ | refine vy (a_fa (hf := T.fo_30_0)) ?_
 first | refine vy (k_ldr T.ts_3) ?_ | refine vy (k_lda T.ts_3) ?_
 refine vy (a_build (hb := by first | exact rfl | rfl) (hr := by first | rfl)) ?_
 refine vs (b_alloc (hz := T.zo_30)) ?_
 refine vs (b_store T.ts_30) ?_
 refine vl_nil ?_
 refine vc_then ?_
 refine vc_then ?_
 refine vc_region ?_
 first | refine vy (a_fr (hf := T.fo_30_0)) ?_ | refine vy (a_fa (hf := T.fo_30_0)) ?_
 first | refine vy (k_ldr T.ts_3) ?_ | refine vy (k_lda T.ts_3) ?_
 refine vl_nil ?_
 refine vc_block ?_
 refine vc_then ?_
 refine vc_then ?_
 refine vc_region ?_
 refine vy (a_bin (hr := by first | exact pr_eql | exact pr_eqs | exact pr_eqb Try.underlying3)) ?_
 refine vy a_assign ?_
 refine vl_nil ?_
 refine vif (fun hc1 => ?_) (fun hc1 => ?_)
 · -- yes
  have hkkind_1 : x.kind = 1 := by simpa using hc1
  refine vc_skip ?_
  refine vif (fun hc2 => ?_) (fun hc2 => ?_)
  · -- yes
   have hkkind_1 : x.kind = 1 := by simpa using hc2
   refine vc_drawn0 T.mixed ?_
   first | refine qy (a_fr (hf := T.fo_30_1)) ?_ | refine qy (a_fa (hf := T.fo_30_1)) ?_
   first | refine qy (k_ldr T.ts_24) ?_ | refine qy (k_lda T.ts_24) ?_
   first | refine qy (a_fr (hf := T.fo_30_2)) ?_ | refine qy (a_fa (hf := T.fo_30_2)) ?_
   first | refine qy (k_ldr T.ts_9) ?_ | refine qy (k_lda T.ts_9) ?_
   first | refine qy (a_fr (hf := T.fo_30_1)) ?_ | refine qy (a_fa (hf := T.fo_30_1)) ?_
   refine qs (c_store T.ts_24) ?_
   first | refine qy (a_fr (hf := T.fo_30_2)) ?_ | refine qy (a_fa (hf := T.fo_30_2)) ?_
   refine qs (c_store T.ts_9) ?_
   show _
   refine vc_then ?_
   refine vc_region ?_
   first | refine vy (k_ldr T.ts_30) ?_ | refine vy (k_lda T.ts_30) ?_
   refine vs (b_store T.ts_30) ?_
   refine vy a_assign ?_
   refine vl_nil ?_
   refine vc_ret ?_
   refine fin (hv := by simp only [vres, vres1, pd_all, List.length_cons, List.length_nil, Nat.reduceAdd, Nat.zero_add, Option.map_some, T.ts_30, strD, vget, vd, vc1, vconst, plainV, C.asD, conc, scs, Option.map_some, Option.map_none, ↓upd_get, ↓boxEnv_get, ↓spend_get, noEnv_get, ↓reduceIte, Nat.reduceEqDiff, reduceCtorEq, unref, demote, demoteC, slotV, ↓freshOf_get, fresh1_c, fresh1_at, fresh1_tup, fresh1_junk, ↓keep_get, keep_none]; rfl) ?_
   simp only [fitsL, fits, C.asD, and_true]
   all_goals (first | (rw [parts_a (by omega)]; exact ⟨by kernel_rfl, by kernel_rfl⟩) | (rw [parts_b (by omega)]; exact ⟨by kernel_rfl, by kernel_rfl⟩) | (rw [parts_c (by omega)]; exact ⟨by kernel_rfl, by kernel_rfl⟩) | (rw [parts_d (by omega)]; exact ⟨by kernel_rfl, by kernel_rfl⟩) | (rw [parts_e (by omega)]; exact ⟨by kernel_rfl, by kernel_rfl⟩) | (rw [parts_f (by omega)]; exact ⟨by kernel_rfl, by kernel_rfl⟩) | (rw [parts_g (by omega)]; exact ⟨by kernel_rfl, by kernel_rfl⟩))
  · -- no
   first | (exfalso; have hdead := hc2; simp at hdead <;> omega) | (exfalso; simp_all; done)
 · -- no
  have hnkind_1 : ¬ x.kind = 1 := by simpa using hc1
  refine vc_region ?_
  refine vy (a_bin (hr := by first | exact pr_eql | exact pr_eqs | exact pr_eqb Try.underlying3)) ?_
  refine vy a_assign ?_
  refine vl_nil ?_
  refine vif (fun hc3 => ?_) (fun hc3 => ?_)
  · -- yes
   have hkkind_5 : x.kind = 5 := by simpa using hc3
   refine vc_drawn0 T.mixed ?_
   first | refine qy (a_fr (hf := T.fo_30_1)) ?_ | refine qy (a_fa (hf := T.fo_30_1)) ?_
   first | refine qy (k_ldr T.ts_24) ?_ | refine qy (k_lda T.ts_24) ?_
   first | refine qy (a_fr (hf := T.fo_30_2)) ?_ | refine qy (a_fa (hf := T.fo_30_2)) ?_
   first | refine qy (k_ldr T.ts_9) ?_ | refine qy (k_lda T.ts_9) ?_
   first | refine qy (a_fr (hf := T.fo_30_1)) ?_ | refine qy (a_fa (hf := T.fo_30_1)) ?_
   refine qs (c_store T.ts_24) ?_
   first | refine qy (a_fr (hf := T.fo_30_2)) ?_ | refine qy (a_fa (hf := T.fo_30_2)) ?_
   refine qs (c_store T.ts_9) ?_
   show _
   refine vc_then ?_
   refine vc_region ?_
   first | refine vy (k_ldr T.ts_30) ?_ | refine vy (k_lda T.ts_30) ?_
   refine vs (b_store T.ts_30) ?_
   refine vy a_assign ?_
   refine vl_nil ?_
   refine vc_ret ?_
   refine fin (hv := by simp only [vres, vres1, pd_all, List.length_cons, List.length_nil, Nat.reduceAdd, Nat.zero_add, Option.map_some, T.ts_30, strD, vget, vd, vc1, vconst, plainV, C.asD, conc, scs, Option.map_some, Option.map_none, ↓upd_get, ↓boxEnv_get, ↓spend_get, noEnv_get, ↓reduceIte, Nat.reduceEqDiff, reduceCtorEq, unref, demote, demoteC, slotV, ↓freshOf_get, fresh1_c, fresh1_at, fresh1_tup, fresh1_junk, ↓keep_get, keep_none]; rfl) ?_
   simp only [fitsL, fits, C.asD, and_true]
   all_goals (first | (rw [parts_a (by omega)]; exact ⟨by kernel_rfl, by kernel_rfl⟩) | (rw [parts_b (by omega)]; exact ⟨by kernel_rfl, by kernel_rfl⟩) | (rw [parts_c (by omega)]; exact ⟨by kernel_rfl, by kernel_rfl⟩) | (rw [parts_d (by omega)]; exact ⟨by kernel_rfl, by kernel_rfl⟩) | (rw [parts_e (by omega)]; exact ⟨by kernel_rfl, by kernel_rfl⟩) | (rw [parts_f (by omega)]; exact ⟨by kernel_rfl, by kernel_rfl⟩) | (rw [parts_g (by omega)]; exact ⟨by kernel_rfl, by kernel_rfl⟩))
  · -- no
   have hnkind_5 : ¬ x.kind = 5 := by simpa using hc3
   refine vc_then ?_
   refine vc_then ?_
   refine vc_region ?_
   refine vy (a_bin (hr := by first | exact pr_eql | exact pr_eqs | exact pr_eqb Try.underlying3)) ?_
   refine vy a_assign ?_
   refine vl_nil ?_
   refine vif (fun hc4 => ?_) (fun hc4 => ?_)
   · -- yes
    have hkkind_2 : x.kind = 2 := by simpa using hc4
    refine vc_skip ?_
    refine vif (fun hc5 => ?_) (fun hc5 => ?_)
    · -- yes
     have hkkind_2 : x.kind = 2 := by simpa using hc5
     refine vc_region ?_
     first | refine vy (a_fr (hf := T.fo_30_5)) ?_ | refine vy (a_fa (hf := T.fo_30_5)) ?_
     first | refine vy (k_ldr T.ts_27) ?_ | refine vy (k_lda T.ts_27) ?_
     first | refine vy (a_fr (hf := T.fo_30_5)) ?_ | refine vy (a_fa (hf := T.fo_30_5)) ?_
     refine vs (b_store T.ts_27) ?_
     refine vl_nil ?_
     refine vc_then ?_
     refine vc_region ?_
     first | refine vy (k_ldr T.ts_30) ?_ | refine vy (k_lda T.ts_30) ?_
     refine vs (b_store T.ts_30) ?_
     refine vy a_assign ?_
     refine vl_nil ?_
     refine vc_ret ?_
     refine fin (hv := by simp only [vres, vres1, pd_all, List.length_cons, List.length_nil, Nat.reduceAdd, Nat.zero_add, Option.map_some, T.ts_30, strD, vget, vd, vc1, vconst, plainV, C.asD, conc, scs, Option.map_some, Option.map_none, ↓upd_get, ↓boxEnv_get, ↓spend_get, noEnv_get, ↓reduceIte, Nat.reduceEqDiff, reduceCtorEq, unref, demote, demoteC, slotV, ↓freshOf_get, fresh1_c, fresh1_at, fresh1_tup, fresh1_junk, ↓keep_get, keep_none]; rfl) ?_
     simp only [fitsL, fits, C.asD, and_true]
     all_goals (first | (rw [parts_a (by omega)]; exact ⟨by kernel_rfl, by kernel_rfl⟩) | (rw [parts_b (by omega)]; exact ⟨by kernel_rfl, by kernel_rfl⟩) | (rw [parts_c (by omega)]; exact ⟨by kernel_rfl, by kernel_rfl⟩) | (rw [parts_d (by omega)]; exact ⟨by kernel_rfl, by kernel_rfl⟩) | (rw [parts_e (by omega)]; exact ⟨by kernel_rfl, by kernel_rfl⟩) | (rw [parts_f (by omega)]; exact ⟨by kernel_rfl, by kernel_rfl⟩) | (rw [parts_g (by omega)]; exact ⟨by kernel_rfl, by kernel_rfl⟩))
    · -- no
     first | (exfalso; have hdead := hc5; simp at hdead <;> omega) | (exfalso; simp_all; done)
   · -- no
    have hnkind_2 : ¬ x.kind = 2 := by simpa using hc4
    refine vc_region ?_
    refine vy (a_bin (hr := by first | exact pr_eql | exact pr_eqs | exact pr_eqb Try.underlying3)) ?_
    refine vy a_assign ?_
    refine vl_nil ?_
    refine vif (fun hc6 => ?_) (fun hc6 => ?_)
    · -- yes
     have hkkind_3 : x.kind = 3 := by simpa using hc6
     refine vc_region ?_
     first | refine vy (a_fr (hf := T.fo_30_5)) ?_ | refine vy (a_fa (hf := T.fo_30_5)) ?_
     first | refine vy (k_ldr T.ts_27) ?_ | refine vy (k_lda T.ts_27) ?_
     first | refine vy (a_fr (hf := T.fo_30_5)) ?_ | refine vy (a_fa (hf := T.fo_30_5)) ?_
     refine vs (b_store T.ts_27) ?_
     refine vl_nil ?_
     refine vc_then ?_
     refine vc_region ?_
     first | refine vy (k_ldr T.ts_30) ?_ | refine vy (k_lda T.ts_30) ?_
     refine vs (b_store T.ts_30) ?_
     refine vy a_assign ?_
     refine vl_nil ?_
     refine vc_ret ?_
     refine fin (hv := by simp only [vres, vres1, pd_all, List.length_cons, List.length_nil, Nat.reduceAdd, Nat.zero_add, Option.map_some, T.ts_30, strD, vget, vd, vc1, vconst, plainV, C.asD, conc, scs, Option.map_some, Option.map_none, ↓upd_get, ↓boxEnv_get, ↓spend_get, noEnv_get, ↓reduceIte, Nat.reduceEqDiff, reduceCtorEq, unref, demote, demoteC, slotV, ↓freshOf_get, fresh1_c, fresh1_at, fresh1_tup, fresh1_junk, ↓keep_get, keep_none]; rfl) ?_
     simp only [fitsL, fits, C.asD, and_true]
     all_goals (first | (rw [parts_a (by omega)]; exact ⟨by kernel_rfl, by kernel_rfl⟩) | (rw [parts_b (by omega)]; exact ⟨by kernel_rfl, by kernel_rfl⟩) | (rw [parts_c (by omega)]; exact ⟨by kernel_rfl, by kernel_rfl⟩) | (rw [parts_d (by omega)]; exact ⟨by kernel_rfl, by kernel_rfl⟩) | (rw [parts_e (by omega)]; exact ⟨by kernel_rfl, by kernel_rfl⟩) | (rw [parts_f (by omega)]; exact ⟨by kernel_rfl, by kernel_rfl⟩) | (rw [parts_g (by omega)]; exact ⟨by kernel_rfl, by kernel_rfl⟩))
    · -- no
     have hnkind_3 : ¬ x.kind = 3 := by simpa using hc6
     refine vc_then ?_
     refine vc_region ?_
     refine vy (a_bin (hr := by first | exact pr_eql | exact pr_eqs | exact pr_eqb Try.underlying3)) ?_
     refine vy a_assign ?_
     refine vl_nil ?_
     refine vif (fun hc7 => ?_) (fun hc7 => ?_)
     · -- yes
      have hkkind_4 : x.kind = 4 := by simpa using hc7
      refine vc_region ?_
      first | refine vy (a_fr (hf := T.fo_30_1)) ?_ | refine vy (a_fa (hf := T.fo_30_1)) ?_
      first | refine vy (k_ldr T.ts_24) ?_ | refine vy (k_lda T.ts_24) ?_
      first | refine vy (a_fr (hf := T.fo_30_1)) ?_ | refine vy (a_fa (hf := T.fo_30_1)) ?_
      refine vs (b_store T.ts_24) ?_
      refine vl_nil ?_
      refine vc_then ?_
      refine vc_region ?_
      first | refine vy (k_ldr T.ts_30) ?_ | refine vy (k_lda T.ts_30) ?_
      refine vs (b_store T.ts_30) ?_
      refine vy a_assign ?_
      refine vl_nil ?_
      refine vc_ret ?_
      refine fin (hv := by simp only [vres, vres1, pd_all, List.length_cons, List.length_nil, Nat.reduceAdd, Nat.zero_add, Option.map_some, T.ts_30, strD, vget, vd, vc1, vconst, plainV, C.asD, conc, scs, Option.map_some, Option.map_none, ↓upd_get, ↓boxEnv_get, ↓spend_get, noEnv_get, ↓reduceIte, Nat.reduceEqDiff, reduceCtorEq, unref, demote, demoteC, slotV, ↓freshOf_get, fresh1_c, fresh1_at, fresh1_tup, fresh1_junk, ↓keep_get, keep_none]; rfl) ?_
      simp only [fitsL, fits, C.asD, and_true]
      all_goals (first | (rw [parts_a (by omega)]; exact ⟨by kernel_rfl, by kernel_rfl⟩) | (rw [parts_b (by omega)]; exact ⟨by kernel_rfl, by kernel_rfl⟩) | (rw [parts_c (by omega)]; exact ⟨by kernel_rfl, by kernel_rfl⟩) | (rw [parts_d (by omega)]; exact ⟨by kernel_rfl, by kernel_rfl⟩) | (rw [parts_e (by omega)]; exact ⟨by kernel_rfl, by kernel_rfl⟩) | (rw [parts_f (by omega)]; exact ⟨by kernel_rfl, by kernel_rfl⟩) | (rw [parts_g (by omega)]; exact ⟨by kernel_rfl, by kernel_rfl⟩))
     · -- no
      have hnkind_4 : ¬ x.kind = 4 := by simpa using hc7
      refine vc_then ?_
      refine vc_then ?_
      refine vc_region ?_
      refine vy (a_bin (hr := by first | exact pr_eql | exact pr_eqs | exact pr_eqb Try.underlying3)) ?_
      refine vy a_assign ?_
      refine vl_nil ?_
      refine vif (fun hc8 => ?_) (fun hc8 => ?_)
      · -- yes
       have hkkind_6 : x.kind = 6 := by simpa using hc8
       refine vc_skip ?_
       refine vif (fun hc9 => ?_) (fun hc9 => ?_)
       · -- yes
        have hkkind_6 : x.kind = 6 := by simpa using hc9
        refine vc_drawn0 T.mixed ?_
        first | refine qy (a_fr (hf := T.fo_30_1)) ?_ | refine qy (a_fa (hf := T.fo_30_1)) ?_
        first | refine qy (k_ldr T.ts_24) ?_ | refine qy (k_lda T.ts_24) ?_
        first | refine qy (a_fr (hf := T.fo_30_2)) ?_ | refine qy (a_fa (hf := T.fo_30_2)) ?_
        first | refine qy (k_ldr T.ts_9) ?_ | refine qy (k_lda T.ts_9) ?_
        first | refine qy (a_fr (hf := T.fo_30_3)) ?_ | refine qy (a_fa (hf := T.fo_30_3)) ?_
        first | refine qy (k_ldr T.ts_9) ?_ | refine qy (k_lda T.ts_9) ?_
        first | refine qy (a_fr (hf := T.fo_30_4)) ?_ | refine qy (a_fa (hf := T.fo_30_4)) ?_
        first | refine qy (k_ldr T.ts_2) ?_ | refine qy (k_lda T.ts_2) ?_
        first | refine qy (a_fr (hf := T.fo_30_1)) ?_ | refine qy (a_fa (hf := T.fo_30_1)) ?_
        refine qs (c_store T.ts_24) ?_
        first | refine qy (a_fr (hf := T.fo_30_2)) ?_ | refine qy (a_fa (hf := T.fo_30_2)) ?_
        refine qs (c_store T.ts_9) ?_
        first | refine qy (a_fr (hf := T.fo_30_3)) ?_ | refine qy (a_fa (hf := T.fo_30_3)) ?_
        refine qs (c_store T.ts_9) ?_
        first | refine qy (a_fr (hf := T.fo_30_4)) ?_ | refine qy (a_fa (hf := T.fo_30_4)) ?_
        refine qs (c_store T.ts_2) ?_
        show _
        refine vc_then ?_
        refine vc_region ?_
        first | refine vy (k_ldr T.ts_30) ?_ | refine vy (k_lda T.ts_30) ?_
        refine vs (b_store T.ts_30) ?_
        refine vy a_assign ?_
        refine vl_nil ?_
        refine vc_ret ?_
        refine fin (hv := by simp only [vres, vres1, pd_all, List.length_cons, List.length_nil, Nat.reduceAdd, Nat.zero_add, Option.map_some, T.ts_30, strD, vget, vd, vc1, vconst, plainV, C.asD, conc, scs, Option.map_some, Option.map_none, ↓upd_get, ↓boxEnv_get, ↓spend_get, noEnv_get, ↓reduceIte, Nat.reduceEqDiff, reduceCtorEq, unref, demote, demoteC, slotV, ↓freshOf_get, fresh1_c, fresh1_at, fresh1_tup, fresh1_junk, ↓keep_get, keep_none]; rfl) ?_
        simp only [fitsL, fits, C.asD, and_true]
        all_goals (first | (rw [parts_a (by omega)]; exact ⟨by kernel_rfl, by kernel_rfl⟩) | (rw [parts_b (by omega)]; exact ⟨by kernel_rfl, by kernel_rfl⟩) | (rw [parts_c (by omega)]; exact ⟨by kernel_rfl, by kernel_rfl⟩) | (rw [parts_d (by omega)]; exact ⟨by kernel_rfl, by kernel_rfl⟩) | (rw [parts_e (by omega)]; exact ⟨by kernel_rfl, by kernel_rfl⟩) | (rw [parts_f (by omega)]; exact ⟨by kernel_rfl, by kernel_rfl⟩) | (rw [parts_g (by omega)]; exact ⟨by kernel_rfl, by kernel_rfl⟩))
       · -- no
        first | (exfalso; have hdead := hc9; simp at hdead <;> omega) | (exfalso; simp_all; done)
      · -- no
       have hnkind_6 : ¬ x.kind = 6 := by simpa using hc8
       refine vc_region ?_
       refine vy (a_bin (hr := by first | exact pr_eql | exact pr_eqs | exact pr_eqb Try.underlying3)) ?_
       refine vy a_assign ?_
       refine vl_nil ?_
       refine vif (fun hc10 => ?_) (fun hc10 => ?_)
       · -- yes
        have hkkind_9 : x.kind = 9 := by simpa using hc10
        refine vc_drawn0 T.mixed ?_
        first | refine qy (a_fr (hf := T.fo_30_1)) ?_ | refine qy (a_fa (hf := T.fo_30_1)) ?_
        first | refine qy (k_ldr T.ts_24) ?_ | refine qy (k_lda T.ts_24) ?_
        first | refine qy (a_fr (hf := T.fo_30_2)) ?_ | refine qy (a_fa (hf := T.fo_30_2)) ?_
        first | refine qy (k_ldr T.ts_9) ?_ | refine qy (k_lda T.ts_9) ?_
        first | refine qy (a_fr (hf := T.fo_30_3)) ?_ | refine qy (a_fa (hf := T.fo_30_3)) ?_
        first | refine qy (k_ldr T.ts_9) ?_ | refine qy (k_lda T.ts_9) ?_
        first | refine qy (a_fr (hf := T.fo_30_4)) ?_ | refine qy (a_fa (hf := T.fo_30_4)) ?_
        first | refine qy (k_ldr T.ts_2) ?_ | refine qy (k_lda T.ts_2) ?_
        first | refine qy (a_fr (hf := T.fo_30_1)) ?_ | refine qy (a_fa (hf := T.fo_30_1)) ?_
        refine qs (c_store T.ts_24) ?_
        first | refine qy (a_fr (hf := T.fo_30_2)) ?_ | refine qy (a_fa (hf := T.fo_30_2)) ?_
        refine qs (c_store T.ts_9) ?_
        first | refine qy (a_fr (hf := T.fo_30_3)) ?_ | refine qy (a_fa (hf := T.fo_30_3)) ?_
        refine qs (c_store T.ts_9) ?_
        first | refine qy (a_fr (hf := T.fo_30_4)) ?_ | refine qy (a_fa (hf := T.fo_30_4)) ?_
        refine qs (c_store T.ts_2) ?_
        show _
        refine vc_then ?_
        refine vc_region ?_
        first | refine vy (k_ldr T.ts_30) ?_ | refine vy (k_lda T.ts_30) ?_
        refine vs (b_store T.ts_30) ?_
        refine vy a_assign ?_
        refine vl_nil ?_
        refine vc_ret ?_
        refine fin (hv := by simp only [vres, vres1, pd_all, List.length_cons, List.length_nil, Nat.reduceAdd, Nat.zero_add, Option.map_some, T.ts_30, strD, vget, vd, vc1, vconst, plainV, C.asD, conc, scs, Option.map_some, Option.map_none, ↓upd_get, ↓boxEnv_get, ↓spend_get, noEnv_get, ↓reduceIte, Nat.reduceEqDiff, reduceCtorEq, unref, demote, demoteC, slotV, ↓freshOf_get, fresh1_c, fresh1_at, fresh1_tup, fresh1_junk, ↓keep_get, keep_none]; rfl) ?_
        simp only [fitsL, fits, C.asD, and_true]
        all_goals (first | (rw [parts_a (by omega)]; exact ⟨by kernel_rfl, by kernel_rfl⟩) | (rw [parts_b (by omega)]; exact ⟨by kernel_rfl, by kernel_rfl⟩) | (rw [parts_c (by omega)]; exact ⟨by kernel_rfl, by kernel_rfl⟩) | (rw [parts_d (by omega)]; exact ⟨by kernel_rfl, by kernel_rfl⟩) | (rw [parts_e (by omega)]; exact ⟨by kernel_rfl, by kernel_rfl⟩) | (rw [parts_f (by omega)]; exact ⟨by kernel_rfl, by kernel_rfl⟩) | (rw [parts_g (by omega)]; exact ⟨by kernel_rfl, by kernel_rfl⟩))
       · -- no
        have hnkind_9 : ¬ x.kind = 9 := by simpa using hc10
        refine vc_then ?_
        refine vc_then ?_
        refine vc_region ?_
        refine vy (a_bin (hr := by first | exact pr_eql | exact pr_eqs | exact pr_eqb Try.underlying3)) ?_
        refine vy a_assign ?_
        refine vl_nil ?_
        refine vif (fun hc11 => ?_) (fun hc11 => ?_)
        · -- yes
         have hkkind_7 : x.kind = 7 := by simpa using hc11
         refine vc_skip ?_
         refine vif (fun hc12 => ?_) (fun hc12 => ?_)
         · -- yes
          have hkkind_7 : x.kind = 7 := by simpa using hc12
          refine vc_drawn0 T.mixed ?_
          first | refine qy (a_fr (hf := T.fo_30_1)) ?_ | refine qy (a_fa (hf := T.fo_30_1)) ?_
          first | refine qy (k_ldr T.ts_24) ?_ | refine qy (k_lda T.ts_24) ?_
          first | refine qy (a_fr (hf := T.fo_30_3)) ?_ | refine qy (a_fa (hf := T.fo_30_3)) ?_
          first | refine qy (k_ldr T.ts_9) ?_ | refine qy (k_lda T.ts_9) ?_
          first | refine qy (a_fr (hf := T.fo_30_1)) ?_ | refine qy (a_fa (hf := T.fo_30_1)) ?_
          refine qs (c_store T.ts_24) ?_
          first | refine qy (a_fr (hf := T.fo_30_3)) ?_ | refine qy (a_fa (hf := T.fo_30_3)) ?_
          refine qs (c_store T.ts_9) ?_
          show _
          refine vc_then ?_
          refine vc_region ?_
          first | refine vy (k_ldr T.ts_30) ?_ | refine vy (k_lda T.ts_30) ?_
          refine vs (b_store T.ts_30) ?_
          refine vy a_assign ?_
          refine vl_nil ?_
          refine vc_ret ?_
          refine fin (hv := by simp only [vres, vres1, pd_all, List.length_cons, List.length_nil, Nat.reduceAdd, Nat.zero_add, Option.map_some, T.ts_30, strD, vget, vd, vc1, vconst, plainV, C.asD, conc, scs, Option.map_some, Option.map_none, ↓upd_get, ↓boxEnv_get, ↓spend_get, noEnv_get, ↓reduceIte, Nat.reduceEqDiff, reduceCtorEq, unref, demote, demoteC, slotV, ↓freshOf_get, fresh1_c, fresh1_at, fresh1_tup, fresh1_junk, ↓keep_get, keep_none]; rfl) ?_
          simp only [fitsL, fits, C.asD, and_true]
          all_goals (first | (rw [parts_a (by omega)]; exact ⟨by kernel_rfl, by kernel_rfl⟩) | (rw [parts_b (by omega)]; exact ⟨by kernel_rfl, by kernel_rfl⟩) | (rw [parts_c (by omega)]; exact ⟨by kernel_rfl, by kernel_rfl⟩) | (rw [parts_d (by omega)]; exact ⟨by kernel_rfl, by kernel_rfl⟩) | (rw [parts_e (by omega)]; exact ⟨by kernel_rfl, by kernel_rfl⟩) | (rw [parts_f (by omega)]; exact ⟨by kernel_rfl, by kernel_rfl⟩) | (rw [parts_g (by omega)]; exact ⟨by kernel_rfl, by kernel_rfl⟩))
         · -- no
          first | (exfalso; have hdead := hc12; simp at hdead <;> omega) | (exfalso; simp_all; done)
        · -- no
         have hnkind_7 : ¬ x.kind = 7 := by simpa using hc11
         refine vc_region ?_
         refine vy (a_bin (hr := by first | exact pr_eql | exact pr_eqs | exact pr_eqb Try.underlying3)) ?_
         refine vy a_assign ?_
         refine vl_nil ?_
         refine vif (fun hc13 => ?_) (fun hc13 => ?_)
         · -- yes
          have hkkind_10 : x.kind = 10 := by simpa using hc13
          refine vc_drawn0 T.mixed ?_
          first | refine qy (a_fr (hf := T.fo_30_1)) ?_ | refine qy (a_fa (hf := T.fo_30_1)) ?_
          first | refine qy (k_ldr T.ts_24) ?_ | refine qy (k_lda T.ts_24) ?_
          first | refine qy (a_fr (hf := T.fo_30_3)) ?_ | refine qy (a_fa (hf := T.fo_30_3)) ?_
          first | refine qy (k_ldr T.ts_9) ?_ | refine qy (k_lda T.ts_9) ?_
          first | refine qy (a_fr (hf := T.fo_30_1)) ?_ | refine qy (a_fa (hf := T.fo_30_1)) ?_
          refine qs (c_store T.ts_24) ?_
          first | refine qy (a_fr (hf := T.fo_30_3)) ?_ | refine qy (a_fa (hf := T.fo_30_3)) ?_
          refine qs (c_store T.ts_9) ?_
          show _
          refine vc_then ?_
          refine vc_region ?_
          first | refine vy (k_ldr T.ts_30) ?_ | refine vy (k_lda T.ts_30) ?_
          refine vs (b_store T.ts_30) ?_
          refine vy a_assign ?_
          refine vl_nil ?_
          refine vc_ret ?_
          refine fin (hv := by simp only [vres, vres1, pd_all, List.length_cons, List.length_nil, Nat.reduceAdd, Nat.zero_add, Option.map_some, T.ts_30, strD, vget, vd, vc1, vconst, plainV, C.asD, conc, scs, Option.map_some, Option.map_none, ↓upd_get, ↓boxEnv_get, ↓spend_get, noEnv_get, ↓reduceIte, Nat.reduceEqDiff, reduceCtorEq, unref, demote, demoteC, slotV, ↓freshOf_get, fresh1_c, fresh1_at, fresh1_tup, fresh1_junk, ↓keep_get, keep_none]; rfl) ?_
          simp only [fitsL, fits, C.asD, and_true]
          all_goals (first | (rw [parts_a (by omega)]; exact ⟨by kernel_rfl, by kernel_rfl⟩) | (rw [parts_b (by omega)]; exact ⟨by kernel_rfl, by kernel_rfl⟩) | (rw [parts_c (by omega)]; exact ⟨by kernel_rfl, by kernel_rfl⟩) | (rw [parts_d (by omega)]; exact ⟨by kernel_rfl, by kernel_rfl⟩) | (rw [parts_e (by omega)]; exact ⟨by kernel_rfl, by kernel_rfl⟩) | (rw [parts_f (by omega)]; exact ⟨by kernel_rfl, by kernel_rfl⟩) | (rw [parts_g (by omega)]; exact ⟨by kernel_rfl, by kernel_rfl⟩))
         · -- no
          have hnkind_10 : ¬ x.kind = 10 := by simpa using hc13
          refine vc_then ?_
          refine vc_region ?_
          refine vy (a_bin (hr := by first | exact pr_eql | exact pr_eqs | exact pr_eqb Try.underlying3)) ?_
          refine vy a_assign ?_
          refine vl_nil ?_
          refine vif (fun hc14 => ?_) (fun hc14 => ?_)
          · -- yes
           have hkkind_8 : x.kind = 8 := by simpa using hc14
           refine vc_then ?_
           refine vc_drawn0 T.mixed ?_
           first | refine qy (a_fr (hf := T.fo_30_1)) ?_ | refine qy (a_fa (hf := T.fo_30_1)) ?_
           first | refine qy (k_ldr T.ts_24) ?_ | refine qy (k_lda T.ts_24) ?_
           first | refine qy (a_fr (hf := T.fo_30_2)) ?_ | refine qy (a_fa (hf := T.fo_30_2)) ?_
           first | refine qy (k_ldr T.ts_9) ?_ | refine qy (k_lda T.ts_9) ?_
           first | refine qy (a_fr (hf := T.fo_30_3)) ?_ | refine qy (a_fa (hf := T.fo_30_3)) ?_
           first | refine qy (k_ldr T.ts_9) ?_ | refine qy (k_lda T.ts_9) ?_
           first | refine qy (a_fr (hf := T.fo_30_1)) ?_ | refine qy (a_fa (hf := T.fo_30_1)) ?_
           refine qs (c_store T.ts_24) ?_
           first | refine qy (a_fr (hf := T.fo_30_2)) ?_ | refine qy (a_fa (hf := T.fo_30_2)) ?_
           refine qs (c_store T.ts_9) ?_
           first | refine qy (a_fr (hf := T.fo_30_3)) ?_ | refine qy (a_fa (hf := T.fo_30_3)) ?_
           refine qs (c_store T.ts_9) ?_
           show _
           refine vc_drawn0 T.mixed ?_
           first | refine qy (a_fr (hf := T.fo_30_6)) ?_ | refine qy (a_fa (hf := T.fo_30_6)) ?_
           first | refine qy (k_ldr T.ts_28) ?_ | refine qy (k_lda T.ts_28) ?_
           first | refine qy (a_fr (hf := T.fo_30_7)) ?_ | refine qy (a_fa (hf := T.fo_30_7)) ?_
           first | refine qy (k_ldr T.ts_28) ?_ | refine qy (k_lda T.ts_28) ?_
           first | refine qy (a_fr (hf := T.fo_30_6)) ?_ | refine qy (a_fa (hf := T.fo_30_6)) ?_
           refine qs (c_store T.ts_28) ?_
           first | refine qy (a_fr (hf := T.fo_30_7)) ?_ | refine qy (a_fa (hf := T.fo_30_7)) ?_
           refine qs (c_store T.ts_28) ?_
           show _
           refine vc_then ?_
           refine vc_region ?_
           first | refine vy (k_ldr T.ts_30) ?_ | refine vy (k_lda T.ts_30) ?_
           refine vs (b_store T.ts_30) ?_
           refine vy a_assign ?_
           refine vl_nil ?_
           refine vc_ret ?_
           refine fin (hv := by simp only [vres, vres1, pd_all, List.length_cons, List.length_nil, Nat.reduceAdd, Nat.zero_add, Option.map_some, T.ts_30, strD, vget, vd, vc1, vconst, plainV, C.asD, conc, scs, Option.map_some, Option.map_none, ↓upd_get, ↓boxEnv_get, ↓spend_get, noEnv_get, ↓reduceIte, Nat.reduceEqDiff, reduceCtorEq, unref, demote, demoteC, slotV, ↓freshOf_get, fresh1_c, fresh1_at, fresh1_tup, fresh1_junk, ↓keep_get, keep_none]; rfl) ?_
           simp only [fitsL, fits, C.asD, and_true]
           all_goals (first | (rw [parts_a (by omega)]; exact ⟨by kernel_rfl, by kernel_rfl⟩) | (rw [parts_b (by omega)]; exact ⟨by kernel_rfl, by kernel_rfl⟩) | (rw [parts_c (by omega)]; exact ⟨by kernel_rfl, by kernel_rfl⟩) | (rw [parts_d (by omega)]; exact ⟨by kernel_rfl, by kernel_rfl⟩) | (rw [parts_e (by omega)]; exact ⟨by kernel_rfl, by kernel_rfl⟩) | (rw [parts_f (by omega)]; exact ⟨by kernel_rfl, by kernel_rfl⟩) | (rw [parts_g (by omega)]; exact ⟨by kernel_rfl, by kernel_rfl⟩))
          · -- no
           have hnkind_8 : ¬ x.kind = 8 := by simpa using hc14
           refine vc_then ?_
           refine vc_region ?_
           refine vy (a_build (hb := by first | exact rfl | rfl) (hr := by first | rfl)) ?_
           refine vs (b_store T.ts_30) ?_
           refine vy a_assign ?_
           refine vl_nil ?_
           refine vc_ret ?_
           refine fin (hv := by simp only [vres, vres1, pd_all, List.length_cons, List.length_nil, Nat.reduceAdd, Nat.zero_add, Option.map_some, T.ts_30, strD, vget, vd, vc1, vconst, plainV, C.asD, conc, scs, Option.map_some, Option.map_none, ↓upd_get, ↓boxEnv_get, ↓spend_get, noEnv_get, ↓reduceIte, Nat.reduceEqDiff, reduceCtorEq, unref, demote, demoteC, slotV, ↓freshOf_get, fresh1_c, fresh1_at, fresh1_tup, fresh1_junk, ↓keep_get, keep_none]; rfl) ?_
           simp only [fitsL, fits, C.asD, and_true]
           all_goals (first | (rw [parts_a (by omega)]; exact ⟨by kernel_rfl, by kernel_rfl⟩) | (rw [parts_b (by omega)]; exact ⟨by kernel_rfl, by kernel_rfl⟩) | (rw [parts_c (by omega)]; exact ⟨by kernel_rfl, by kernel_rfl⟩) | (rw [parts_d (by omega)]; exact ⟨by kernel_rfl, by kernel_rfl⟩) | (rw [parts_e (by omega)]; exact ⟨by kernel_rfl, by kernel_rfl⟩) | (rw [parts_f (by omega)]; exact ⟨by kernel_rfl, by kernel_rfl⟩) | (rw [parts_g (by omega)]; exact ⟨by kernel_rfl, by kernel_rfl⟩))

set_option maxHeartbeats 1000000 in
theorem rightTables_any (x : LensD) (hx0 : okX x) : Contract Try.prog 92 [lD x] [.d (.sc (.bool (rightTb x)))] := by
 refine fn_of (N := 57) [.tmp 2] Try.func92 ?_
 simp only [envUp, Nat.zero_add, Nat.reduceAdd]
 refine vc_then ?_
 refine vc_region ?_
 refine vs b_box ?_
 refine vy a_assign ?_
 refine vl_nil ?_
 refine vc_then ?_
 refine vc_then ?_
 refine vc_region ?_
 first | refine vy (a_fr (hf := T.fo_30_2)) ?_ | refine vy (a_fa (hf := T.fo_30_2)) ?_
 first | refine vy (k_ldr T.ts_9) ?_ | refine vy (k_lda T.ts_9) ?_
 refine vy (a_call (hf := T.en_89) (hc := by exact name_any _)) ?_
 refine vy a_not ?_
 refine vy a_move ?_
 refine vb 10 (fun hg1 => ?_) (fun hg1 => ?_)
 · -- guard yes
  refine vn ?_
  refine vn ?_
  refine vn ?_
  refine vn ?_
  refine vn ?_
  refine vn ?_
  refine vy a_pick ?_
  refine vy a_move ?_
  refine vn ?_
  refine vn ?_
  refine vn ?_
  refine vn ?_
  refine vn ?_
  refine vn ?_
  refine vy a_pick ?_
  refine vl_nil ?_
  refine vif (fun hc2 => ?_) (fun hc2 => ?_)
  · -- yes
   refine vc_then ?_
   refine vc_region ?_
   refine vy a_assign ?_
   refine vl_nil ?_
   refine vc_ret ?_
   refine fin ?_
   simp only [fitsL, fits, C.asD, and_true]
   all_goals (refine scb ?_; unfold rightTb; first | (simp_all; done) | (rcases hcf : caseT x.forth x.name with ⟨a, b⟩; rcases hcb : caseT x.back x.other with ⟨c, d⟩; simp_all; done))
  · -- no
   first | (exfalso; have hdead := hc2; simp at hdead <;> omega) | (exfalso; simp_all; done)
 · -- guard no
  first | refine vy (a_fr (hf := T.fo_30_6)) ?_ | refine vy (a_fa (hf := T.fo_30_6)) ?_
  first | refine vy (k_ldr T.ts_28) ?_ | refine vy (k_lda T.ts_28) ?_
  first | refine vy (a_fr (hf := T.fo_30_7)) ?_ | refine vy (a_fa (hf := T.fo_30_7)) ?_
  first | refine vy (k_ldr T.ts_28) ?_ | refine vy (k_lda T.ts_28) ?_
  refine vy (a_call (hf := T.en_133) (hc := by exact rightTable_any _ _ (by first | exact hx0.2.1 | exact hx0.2.2) (by first | exact hx0.2.1 | exact hx0.2.2))) ?_
  refine vy a_not ?_
  refine vy a_pick ?_
  refine vy a_move ?_
  refine vb 18 (fun hg3 => ?_) (fun hg3 => ?_)
  · -- guard yes
   refine vn ?_
   refine vn ?_
   refine vn ?_
   refine vn ?_
   refine vn ?_
   refine vn ?_
   refine vy a_pick ?_
   refine vl_nil ?_
   refine vif (fun hc4 => ?_) (fun hc4 => ?_)
   · -- yes
    refine vc_then ?_
    refine vc_region ?_
    refine vy a_assign ?_
    refine vl_nil ?_
    refine vc_ret ?_
    refine fin ?_
    simp only [fitsL, fits, C.asD, and_true]
    all_goals (refine scb ?_; unfold rightTb; first | (simp_all; done) | (rcases hcf : caseT x.forth x.name with ⟨a, b⟩; rcases hcb : caseT x.back x.other with ⟨c, d⟩; simp_all; done))
   · -- no
    first | (exfalso; have hdead := hc4; simp at hdead <;> omega) | (exfalso; simp_all; done)
  · -- guard no
   first | refine vy (a_fr (hf := T.fo_30_7)) ?_ | refine vy (a_fa (hf := T.fo_30_7)) ?_
   first | refine vy (k_ldr T.ts_28) ?_ | refine vy (k_lda T.ts_28) ?_
   first | refine vy (a_fr (hf := T.fo_30_6)) ?_ | refine vy (a_fa (hf := T.fo_30_6)) ?_
   first | refine vy (k_ldr T.ts_28) ?_ | refine vy (k_lda T.ts_28) ?_
   refine vy (a_call (hf := T.en_133) (hc := by exact rightTable_any _ _ (by first | exact hx0.2.1 | exact hx0.2.2) (by first | exact hx0.2.1 | exact hx0.2.2))) ?_
   refine vy a_not ?_
   refine vy a_pick ?_
   refine vl_nil ?_
   refine vif (fun hc5 => ?_) (fun hc5 => ?_)
   · -- yes
    refine vc_then ?_
    refine vc_region ?_
    refine vy a_assign ?_
    refine vl_nil ?_
    refine vc_ret ?_
    refine fin ?_
    simp only [fitsL, fits, C.asD, and_true]
    all_goals (refine scb ?_; unfold rightTb; first | (simp_all; done) | (rcases hcf : caseT x.forth x.name with ⟨a, b⟩; rcases hcb : caseT x.back x.other with ⟨c, d⟩; simp_all; done))
   · -- no
    refine vc_skip ?_
    refine vc_then ?_
    refine vc_region ?_
    first | refine vy (a_fr (hf := T.fo_30_6)) ?_ | refine vy (a_fa (hf := T.fo_30_6)) ?_
    first | refine vy (k_ldr T.ts_28) ?_ | refine vy (k_lda T.ts_28) ?_
    first | refine vy (a_fr (hf := T.fo_30_2)) ?_ | refine vy (a_fa (hf := T.fo_30_2)) ?_
    first | refine vy (k_ldr T.ts_9) ?_ | refine vy (k_lda T.ts_9) ?_
    refine vy (a_call (hf := T.en_26) (hc := by exact case_any _ _ (by first | assumption | exact hx0.2.1 | exact hx0.2.2))) ?_
    refine vy a_move ?_
    refine vy a_ext ?_
    refine vy a_ext ?_
    refine vy a_assign ?_
    refine vy a_assign ?_
    refine vl_nil ?_
    refine vc_then ?_
    refine vc_then ?_
    refine vc_region ?_
    refine vy a_move ?_
    refine vy a_not ?_
    refine vy a_move ?_
    refine vb 36 (fun hg6 => ?_) (fun hg6 => ?_)
    · -- guard yes
     refine vn ?_
     refine vn ?_
     refine vn ?_
     refine vn ?_
     refine vy a_pick ?_
     refine vl_nil ?_
     refine vif (fun hc7 => ?_) (fun hc7 => ?_)
     · -- yes
      refine vc_then ?_
      refine vc_region ?_
      refine vy a_assign ?_
      refine vl_nil ?_
      refine vc_ret ?_
      refine fin ?_
      simp only [fitsL, fits, C.asD, and_true]
      all_goals (refine scb ?_; unfold rightTb; first | (simp_all; done) | (rcases hcf : caseT x.forth x.name with ⟨a, b⟩; rcases hcb : caseT x.back x.other with ⟨c, d⟩; simp_all; done))
     · -- no
      first | (exfalso; have hdead := hc7; simp at hdead <;> omega) | (exfalso; simp_all; done)
    · -- guard no
     refine vy a_move ?_
     first | refine vy (a_fr (hf := T.fo_30_3)) ?_ | refine vy (a_fa (hf := T.fo_30_3)) ?_
     first | refine vy (k_ldr T.ts_9) ?_ | refine vy (k_lda T.ts_9) ?_
     refine vy (a_bin (hr := by first | exact pr_neq | exact pr_nes | exact pr_neb Try.underlying9)) ?_
     refine vy a_pick ?_
     refine vl_nil ?_
     refine vif (fun hc8 => ?_) (fun hc8 => ?_)
     · -- yes
      refine vc_then ?_
      refine vc_region ?_
      refine vy a_assign ?_
      refine vl_nil ?_
      refine vc_ret ?_
      refine fin ?_
      simp only [fitsL, fits, C.asD, and_true]
      all_goals (refine scb ?_; unfold rightTb; first | (simp_all; done) | (rcases hcf : caseT x.forth x.name with ⟨a, b⟩; rcases hcb : caseT x.back x.other with ⟨c, d⟩; simp_all; done))
     · -- no
      refine vc_skip ?_
      refine vc_then ?_
      refine vc_region ?_
      first | refine vy (a_fr (hf := T.fo_30_7)) ?_ | refine vy (a_fa (hf := T.fo_30_7)) ?_
      first | refine vy (k_ldr T.ts_28) ?_ | refine vy (k_lda T.ts_28) ?_
      first | refine vy (a_fr (hf := T.fo_30_3)) ?_ | refine vy (a_fa (hf := T.fo_30_3)) ?_
      first | refine vy (k_ldr T.ts_9) ?_ | refine vy (k_lda T.ts_9) ?_
      refine vy (a_call (hf := T.en_26) (hc := by exact case_any _ _ (by first | assumption | exact hx0.2.1 | exact hx0.2.2))) ?_
      refine vy a_move ?_
      refine vy a_ext ?_
      refine vy a_ext ?_
      refine vy a_assign ?_
      refine vy a_assign ?_
      refine vl_nil ?_
      refine vc_then ?_
      refine vc_region ?_
      refine vy a_move ?_
      refine vy a_move ?_
      refine vb 51 (fun hg9 => ?_) (fun hg9 => ?_)
      · -- guard yes
       refine vy a_move ?_
       first | refine vy (a_fr (hf := T.fo_30_2)) ?_ | refine vy (a_fa (hf := T.fo_30_2)) ?_
       first | refine vy (k_ldr T.ts_9) ?_ | refine vy (k_lda T.ts_9) ?_
       refine vy (a_bin (hr := by first | exact pr_eql | exact pr_eqs | exact pr_eqb Try.underlying9)) ?_
       refine vy a_pick ?_
       refine vy a_assign ?_
       refine vl_nil ?_
       refine vc_ret ?_
       refine fin ?_
       simp only [fitsL, fits, C.asD, and_true]
       all_goals (refine scb ?_; unfold rightTb; first | (simp_all; done) | (rcases hcf : caseT x.forth x.name with ⟨a, b⟩; rcases hcb : caseT x.back x.other with ⟨c, d⟩; simp_all; done))
      · -- guard no
       refine vn ?_
       refine vn ?_
       refine vn ?_
       refine vn ?_
       refine vy a_pick ?_
       refine vy a_assign ?_
       refine vl_nil ?_
       refine vc_ret ?_
       refine fin ?_
       simp only [fitsL, fits, C.asD, and_true]
       all_goals (refine scb ?_; unfold rightTb; first | (simp_all; done) | (rcases hcf : caseT x.forth x.name with ⟨a, b⟩; rcases hcb : caseT x.back x.other with ⟨c, d⟩; simp_all; done))
end Go.Vm
