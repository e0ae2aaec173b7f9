/- The walk of what comes over a lens. Printed by lens_apply.py. -/
import Derived.Test.YthkgbmekiclgmaaLnMerged
namespace Go.Vm
open Go.RowKit Go.Proofs
set_option linter.unusedVariables false
set_option linter.unusedSimpArgs false
set_option maxRecDepth 10000

set_option maxHeartbeats 1000000 in
theorem arrivals_any (l : List FieldD) (x : LensD) (ho : okL l) (hx0 : okX x) (hl : rightS l = true) (hx : rightL x = true) : Contract Try.prog 67 [.row (l.map fD), lD x] [.d (.row ((arrS l x).1.map fD)), .d (.sc (.bool ((arrS l x).2)))] := by
 refine fn_of (N := 140) [.tmp 4, .tmp 5] Try.func67 ?_
 simp only [envUp, Nat.zero_add, Nat.reduceAdd]
 refine vc_then ?_
 refine vc_region ?_
 refine vs b_box ?_
 refine vy a_assign ?_
 refine vy a_assign ?_
 refine vl_nil ?_
 refine vc_then ?_
 refine vc_then ?_
 refine vc_region ?_
 first | refine vy (a_fr (hf := T.fo_30_0)) ?_ | refine vy (a_fa (hf := T.fo_30_0)) ?_
 first | refine vy (k_ldr T.ts_3) ?_ | refine vy (k_lda T.ts_3) ?_
 refine vl_nil ?_
 refine vc_block ?_
 refine vc_then ?_
 refine vc_region ?_
 refine vy (a_bin (hr := by first | exact pr_mul (wrap64 _ (mul_bound (find_worth hl hf0) (factor_ok hx (by omega)))) | exact pr_eql | exact pr_eqs | exact pr_eqb Try.underlying3)) ?_
 refine vy a_assign ?_
 refine vl_nil ?_
 refine vif (fun hc1 => ?_) (fun hc1 => ?_)
 · -- yes
  have hkkind_2 : x.kind = 2 := by simpa using hc1
  refine vc_then ?_
  refine vc_region ?_
  first | refine vy (a_fr (hf := T.fo_30_5)) ?_ | refine vy (a_fa (hf := T.fo_30_5)) ?_
  first | refine vy (k_ldr T.ts_27) ?_ | refine vy (k_lda T.ts_27) ?_
  refine vy (a_call (hf := T.en_66) (hc := by exact fieldOwn_any _ hx0.1)) ?_
  refine vy (a_lit (xs := [_]) (hT := T.ef_22) (hz := T.zs_27)) ?_
  refine vy a_assign ?_
  refine vy a_assign ?_
  refine vl_nil ?_
  refine vc_ret ?_
  refine fin ?_
  simp only [fitsL, fits, C.asD, and_true]
  all_goals (first | (rw [arr_2 hkkind_2]; exact ⟨rfl, rfl⟩) | (rw [arr_3 hkkind_3]; refine pair_and rfl ?_; simp_all; done) | (rw [arr_9 hkkind_9]; exact ⟨rfl, rfl⟩) | (rw [arr_no hnkind_2 hnkind_3 hnkind_9 hf1]; exact ⟨rfl, rfl⟩) | (rw [arr_6 hkkind_6 hf0]; exact ⟨rfl, rfl⟩) | (rw [arr_7 hkkind_7 hf0]; refine pair_and rfl ?_; simp_all; done) | (rw [arr_10 hkkind_10 hf0]; exact ⟨rfl, rfl⟩) | (rw [arr_8 hkkind_8 hf0]; exact ⟨rfl, rfl⟩) | (rw [arr_o (by omega) hf0]; exact ⟨rfl, rfl⟩))
 · -- no
  have hnkind_2 : ¬ x.kind = 2 := by simpa using hc1
  refine vc_then ?_
  refine vc_region ?_
  refine vy (a_bin (hr := by first | exact pr_mul (wrap64 _ (mul_bound (find_worth hl hf0) (factor_ok hx (by omega)))) | exact pr_eql | exact pr_eqs | exact pr_eqb Try.underlying3)) ?_
  refine vy a_assign ?_
  refine vl_nil ?_
  refine vif (fun hc2 => ?_) (fun hc2 => ?_)
  · -- yes
   have hkkind_3 : x.kind = 3 := by simpa using hc2
   refine vc_then ?_
   refine vc_region ?_
   refine vy a_move ?_
   first | refine vy (a_fr (hf := T.fo_30_5)) ?_ | refine vy (a_fa (hf := T.fo_30_5)) ?_
   first | refine vy (a_fr (hf := T.fo_27_0)) ?_ | refine vy (a_fa (hf := T.fo_27_0)) ?_
   first | refine vy (k_ldr T.ts_24) ?_ | refine vy (k_lda T.ts_24) ?_
   refine vy (a_call (hf := T.en_24) (hc := by exact schemaFind_any _ _ ho)) ?_
   refine vy a_move ?_
   refine vy a_ext ?_
   refine vy a_ext ?_
   refine vs (b_alloc (hz := T.zo_27)) ?_
   refine vs (b_store T.ts_27) ?_
   refine vy a_assign ?_
   refine vl_nil ?_
   refine vc_then ?_
   refine vc_region ?_
   refine vy a_move ?_
   refine vy (a_bin (hr := by first | exact pr_mul (wrap64 _ (mul_bound (find_worth hl hf0) (factor_ok hx (by omega)))) | exact pr_eql | exact pr_eqs | exact pr_eqb Try.underlying35)) ?_
   refine vy a_move ?_
   refine vb 35 (fun hg3 => ?_) (fun hg3 => ?_)
   · -- guard yes
    first | refine vy (k_ldr T.ts_27) ?_ | refine vy (k_lda T.ts_27) ?_
    first | refine vy (a_fr (hf := T.fo_30_5)) ?_ | refine vy (a_fa (hf := T.fo_30_5)) ?_
    first | refine vy (k_ldr T.ts_27) ?_ | refine vy (k_lda T.ts_27) ?_
    refine vy (a_call (hf := T.en_93) (hc := by first | exact fieldSame_any _ x.field (find_ok ho) | exact fieldSame_any _ ⟨x.at_, 3, x.name, froms x.forth, 0⟩ (find_ok ho))) ?_
    refine vy a_pick ?_
    refine vy a_assign ?_
    refine vy a_assign ?_
    refine vl_nil ?_
    refine vc_ret ?_
    refine fin ?_
    simp only [fitsL, fits, C.asD, and_true]
    all_goals (first | (rw [arr_2 hkkind_2]; exact ⟨rfl, rfl⟩) | (rw [arr_3 hkkind_3]; refine pair_and rfl ?_; simp_all; done) | (rw [arr_9 hkkind_9]; exact ⟨rfl, rfl⟩) | (rw [arr_no hnkind_2 hnkind_3 hnkind_9 hf1]; exact ⟨rfl, rfl⟩) | (rw [arr_6 hkkind_6 hf0]; exact ⟨rfl, rfl⟩) | (rw [arr_7 hkkind_7 hf0]; refine pair_and rfl ?_; simp_all; done) | (rw [arr_10 hkkind_10 hf0]; exact ⟨rfl, rfl⟩) | (rw [arr_8 hkkind_8 hf0]; exact ⟨rfl, rfl⟩) | (rw [arr_o (by omega) hf0]; exact ⟨rfl, rfl⟩))
   · -- guard no
    refine vn ?_
    refine vn ?_
    refine vn ?_
    refine vn ?_
    refine vy a_pick ?_
    refine vy a_assign ?_
    refine vy a_assign ?_
    refine vl_nil ?_
    refine vc_ret ?_
    refine fin ?_
    simp only [fitsL, fits, C.asD, and_true]
    all_goals (first | (rw [arr_2 hkkind_2]; exact ⟨rfl, rfl⟩) | (rw [arr_3 hkkind_3]; refine pair_and rfl ?_; simp_all; done) | (rw [arr_9 hkkind_9]; exact ⟨rfl, rfl⟩) | (rw [arr_no hnkind_2 hnkind_3 hnkind_9 hf1]; exact ⟨rfl, rfl⟩) | (rw [arr_6 hkkind_6 hf0]; exact ⟨rfl, rfl⟩) | (rw [arr_7 hkkind_7 hf0]; refine pair_and rfl ?_; simp_all; done) | (rw [arr_10 hkkind_10 hf0]; exact ⟨rfl, rfl⟩) | (rw [arr_8 hkkind_8 hf0]; exact ⟨rfl, rfl⟩) | (rw [arr_o (by omega) hf0]; exact ⟨rfl, rfl⟩))
  · -- no
   have hnkind_3 : ¬ x.kind = 3 := by simpa using hc2
   refine vc_then ?_
   refine vc_region ?_
   refine vy (a_bin (hr := by first | exact pr_mul (wrap64 _ (mul_bound (find_worth hl hf0) (factor_ok hx (by omega)))) | exact pr_eql | exact pr_eqs | exact pr_eqb Try.underlying3)) ?_
   refine vy a_assign ?_
   refine vl_nil ?_
   refine vif (fun hc4 => ?_) (fun hc4 => ?_)
   · -- yes
    have hkkind_9 : x.kind = 9 := by simpa using hc4
    refine vc_then ?_
    refine vc_region ?_
    refine vy a_move ?_
    first | refine vy (k_ldr T.ts_30) ?_ | refine vy (k_lda T.ts_30) ?_
    refine vy (a_call (hf := T.en_127) (hc := by exact merged_any _ _ ho hx0 hl hx (by omega))) ?_
    refine vy a_ext ?_
    refine vy a_ext ?_
    refine vy a_assign ?_
    refine vy a_assign ?_
    refine vl_nil ?_
    refine vc_ret ?_
    refine fin ?_
    simp only [fitsL, fits, C.asD, and_true]
    all_goals (first | (rw [arr_2 hkkind_2]; exact ⟨rfl, rfl⟩) | (rw [arr_3 hkkind_3]; refine pair_and rfl ?_; simp_all; done) | (rw [arr_9 hkkind_9]; exact ⟨rfl, rfl⟩) | (rw [arr_no hnkind_2 hnkind_3 hnkind_9 hf1]; exact ⟨rfl, rfl⟩) | (rw [arr_6 hkkind_6 hf0]; exact ⟨rfl, rfl⟩) | (rw [arr_7 hkkind_7 hf0]; refine pair_and rfl ?_; simp_all; done) | (rw [arr_10 hkkind_10 hf0]; exact ⟨rfl, rfl⟩) | (rw [arr_8 hkkind_8 hf0]; exact ⟨rfl, rfl⟩) | (rw [arr_o (by omega) hf0]; exact ⟨rfl, rfl⟩))
   · -- no
    have hnkind_9 : ¬ x.kind = 9 := by simpa using hc4
    refine vc_skip ?_
    refine vc_then ?_
    refine vc_region ?_
    refine vy a_move ?_
    first | refine vy (a_fr (hf := T.fo_30_1)) ?_ | refine vy (a_fa (hf := T.fo_30_1)) ?_
    first | refine vy (k_ldr T.ts_24) ?_ | refine vy (k_lda T.ts_24) ?_
    refine vy (a_call (hf := T.en_24) (hc := by exact schemaFind_any _ _ ho)) ?_
    refine vy a_move ?_
    refine vy a_ext ?_
    refine vy a_ext ?_
    refine vs (b_alloc (hz := T.zo_27)) ?_
    refine vs (b_store T.ts_27) ?_
    refine vy a_assign ?_
    refine vl_nil ?_
    refine vc_then ?_
    refine vc_then ?_
    refine vc_region ?_
    refine vy a_move ?_
    refine vy (a_bin (hr := by first | exact pr_mul (wrap64 _ (mul_bound (find_worth hl hf0) (factor_ok hx (by omega)))) | exact pr_neq | exact pr_nes | exact pr_neb Try.underlying35)) ?_
    refine vl_nil ?_
    refine vif (fun hc5 => ?_) (fun hc5 => ?_)
    · -- yes
     have hf1 : ¬ (findS l x.at_).2 = 0 := by simpa using hc5
     refine vc_then ?_
     refine vc_region ?_
     refine vy a_assign ?_
     refine vy a_assign ?_
     refine vl_nil ?_
     refine vc_ret ?_
     refine fin ?_
     simp only [fitsL, fits, C.asD, and_true]
     all_goals (first | (rw [arr_2 hkkind_2]; exact ⟨rfl, rfl⟩) | (rw [arr_3 hkkind_3]; refine pair_and rfl ?_; simp_all; done) | (rw [arr_9 hkkind_9]; exact ⟨rfl, rfl⟩) | (rw [arr_no hnkind_2 hnkind_3 hnkind_9 hf1]; exact ⟨rfl, rfl⟩) | (rw [arr_6 hkkind_6 hf0]; exact ⟨rfl, rfl⟩) | (rw [arr_7 hkkind_7 hf0]; refine pair_and rfl ?_; simp_all; done) | (rw [arr_10 hkkind_10 hf0]; exact ⟨rfl, rfl⟩) | (rw [arr_8 hkkind_8 hf0]; exact ⟨rfl, rfl⟩) | (rw [arr_o (by omega) hf0]; exact ⟨rfl, rfl⟩))
    · -- no
     have hf0 : (findS l x.at_).2 = 0 := by simpa using hc5
     refine vc_skip ?_
     refine vc_then ?_
     refine vc_region ?_
     first | refine vy (k_ldr T.ts_30) ?_ | refine vy (k_lda T.ts_30) ?_
     refine vy (a_call (hf := T.en_21) (hc := by exact lensComes_at _ hx0 hx)) ?_
     refine vy a_assign ?_
     refine vl_nil ?_
     refine vc_then ?_
     refine vc_then ?_
     refine vc_region ?_
     first | refine vy (a_fr (hf := T.fo_30_0)) ?_ | refine vy (a_fa (hf := T.fo_30_0)) ?_
     first | refine vy (k_ldr T.ts_3) ?_ | refine vy (k_lda T.ts_3) ?_
     refine vl_nil ?_
     refine vc_block ?_
     refine vc_then ?_
     refine vc_region ?_
     refine vy (a_bin (hr := by first | exact pr_mul (wrap64 _ (mul_bound (find_worth hl hf0) (factor_ok hx (by omega)))) | exact pr_eql | exact pr_eqs | exact pr_eqb Try.underlying3)) ?_
     refine vy a_assign ?_
     refine vl_nil ?_
     refine vif (fun hc6 => ?_) (fun hc6 => ?_)
     · -- yes
      have hkkind_6 : x.kind = 6 := by simpa using hc6
      refine vc_then ?_
      refine vc_drawnN [11] T.mixed ?_
      refine qy a_move ?_
      refine qy (a_ix (hT := T.es_40) (h0 := by first | omega | decide) (hy := by first | exact go9_0 (by omega) | exact go9_1 (by omega) | exact co6_0 (by omega) | exact co6_1 (by omega) | exact co_0 (by omega))) ?_
      first | refine qy (k_ldr T.ts_24) ?_ | refine qy (k_lda T.ts_24) ?_
      first | refine qy (a_fr (hf := T.fo_27_4)) ?_ | refine qy (a_fa (hf := T.fo_27_4)) ?_
      first | refine qy (k_ldr T.ts_2) ?_ | refine qy (k_lda T.ts_2) ?_
      refine qy (a_build (hb := by first | exact rfl | rfl) (hr := by first | rfl)) ?_
      refine qs (c_alloc (hz := T.zo_27)) ?_
      refine qs (c_store T.ts_27) ?_
      show _
      refine vc_then ?_
      refine vc_drawnN [12] T.mixed ?_
      refine qy a_move ?_
      refine qy (a_ix (hT := T.es_40) (h0 := by first | omega | decide) (hy := by first | exact go9_0 (by omega) | exact go9_1 (by omega) | exact co6_0 (by omega) | exact co6_1 (by omega) | exact co_0 (by omega))) ?_
      first | refine qy (k_ldr T.ts_24) ?_ | refine qy (k_lda T.ts_24) ?_
      first | refine qy (a_fr (hf := T.fo_27_4)) ?_ | refine qy (a_fa (hf := T.fo_27_4)) ?_
      first | refine qy (k_ldr T.ts_2) ?_ | refine qy (k_lda T.ts_2) ?_
      first | refine qy (a_fr (hf := T.fo_30_4)) ?_ | refine qy (a_fa (hf := T.fo_30_4)) ?_
      first | refine qy (k_ldr T.ts_2) ?_ | refine qy (k_lda T.ts_2) ?_
      refine qy (a_bin (hr := by first | exact pr_mul (wrap64 _ (mul_bound (find_worth hl hf0) (factor_ok hx (by omega)))) | exact pr_mul (by first | exact wrap64 _ (by (first | omega | (simp only [List.length_map, List.length_append, List.length_nil, List.length_cons]; omega))) | rfl))) ?_
      refine qy (a_build (hb := by first | exact rfl | rfl) (hr := by first | rfl)) ?_
      refine qs (c_alloc (hz := T.zo_27)) ?_
      refine qs (c_store T.ts_27) ?_
      show _
      refine vc_then ?_
      refine vc_drawn0 T.mixed ?_
      first | refine qy (k_ldr T.ts_27) ?_ | refine qy (k_lda T.ts_27) ?_
      first | refine qy (k_ldr T.ts_27) ?_ | refine qy (k_lda T.ts_27) ?_
      refine qy (a_lit (xs := [_, _]) (hT := T.ef_22) (hz := T.zs_27)) ?_
      first | refine qy (a_fr (hf := T.fo_27_1)) ?_ | refine qy (a_fa (hf := T.fo_27_1)) ?_
      first | refine qy (k_ldr T.ts_3) ?_ | refine qy (k_lda T.ts_3) ?_
      refine qy (a_bin (hr := by first | exact pr_mul (wrap64 _ (mul_bound (find_worth hl hf0) (factor_ok hx (by omega)))) | exact pr_eql | exact pr_eqs | exact pr_eqb Try.underlying3)) ?_
      refine qy a_assign ?_
      refine qy a_assign ?_
      show _
      refine vc_ret ?_
      refine fin ?_
      simp only [fitsL, fits, C.asD, and_true]
      all_goals (first | (rw [arr_2 hkkind_2]; exact ⟨rfl, rfl⟩) | (rw [arr_3 hkkind_3]; refine pair_and rfl ?_; simp_all; done) | (rw [arr_9 hkkind_9]; exact ⟨rfl, rfl⟩) | (rw [arr_no hnkind_2 hnkind_3 hnkind_9 hf1]; exact ⟨rfl, rfl⟩) | (rw [arr_6 hkkind_6 hf0]; exact ⟨rfl, rfl⟩) | (rw [arr_7 hkkind_7 hf0]; refine pair_and rfl ?_; simp_all; done) | (rw [arr_10 hkkind_10 hf0]; exact ⟨rfl, rfl⟩) | (rw [arr_8 hkkind_8 hf0]; exact ⟨rfl, rfl⟩) | (rw [arr_o (by omega) hf0]; exact ⟨rfl, rfl⟩))
     · -- no
      have hnkind_6 : ¬ x.kind = 6 := by simpa using hc6
      refine vc_then ?_
      refine vc_region ?_
      refine vy (a_bin (hr := by first | exact pr_mul (wrap64 _ (mul_bound (find_worth hl hf0) (factor_ok hx (by omega)))) | exact pr_eql | exact pr_eqs | exact pr_eqb Try.underlying3)) ?_
      refine vy a_assign ?_
      refine vl_nil ?_
      refine vif (fun hc7 => ?_) (fun hc7 => ?_)
      · -- yes
       have hkkind_7 : x.kind = 7 := by simpa using hc7
       refine vc_then ?_
       refine vc_drawn0 T.mixed ?_
       first | refine qy (a_fr (hf := T.fo_30_1)) ?_ | refine qy (a_fa (hf := T.fo_30_1)) ?_
       first | refine qy (k_ldr T.ts_24) ?_ | refine qy (k_lda T.ts_24) ?_
       refine qy (a_build (hb := by first | exact rfl | rfl) (hr := by first | rfl)) ?_
       refine qy (a_lit (xs := [_]) (hT := T.ef_22) (hz := T.zs_27)) ?_
       first | refine qy (a_fr (hf := T.fo_27_1)) ?_ | refine qy (a_fa (hf := T.fo_27_1)) ?_
       first | refine qy (k_ldr T.ts_3) ?_ | refine qy (k_lda T.ts_3) ?_
       refine qy (a_bin (hr := by first | exact pr_mul (wrap64 _ (mul_bound (find_worth hl hf0) (factor_ok hx (by omega)))) | exact pr_eql | exact pr_eqs | exact pr_eqb Try.underlying3)) ?_
       refine qy a_move ?_
       refine qb 93 (fun hg8 => ?_) (fun hg8 => ?_)
       · -- guard yes
        first | refine qy (a_fr (hf := T.fo_27_2)) ?_ | refine qy (a_fa (hf := T.fo_27_2)) ?_
        first | refine qy (k_ldr T.ts_9) ?_ | refine qy (k_lda T.ts_9) ?_
        first | refine qy (a_fr (hf := T.fo_30_3)) ?_ | refine qy (a_fa (hf := T.fo_30_3)) ?_
        first | refine qy (k_ldr T.ts_9) ?_ | refine qy (k_lda T.ts_9) ?_
        refine qy (a_bin (hr := by first | exact pr_mul (wrap64 _ (mul_bound (find_worth hl hf0) (factor_ok hx (by omega)))) | exact pr_eql | exact pr_eqs | exact pr_eqb Try.underlying9)) ?_
        refine qy a_pick ?_
        refine qy a_assign ?_
        refine qy a_assign ?_
        show _
        refine vc_ret ?_
        refine fin ?_
        simp only [fitsL, fits, C.asD, and_true]
        all_goals (first | (rw [arr_2 hkkind_2]; exact ⟨rfl, rfl⟩) | (rw [arr_3 hkkind_3]; refine pair_and rfl ?_; simp_all; done) | (rw [arr_9 hkkind_9]; exact ⟨rfl, rfl⟩) | (rw [arr_no hnkind_2 hnkind_3 hnkind_9 hf1]; exact ⟨rfl, rfl⟩) | (rw [arr_6 hkkind_6 hf0]; exact ⟨rfl, rfl⟩) | (rw [arr_7 hkkind_7 hf0]; refine pair_and rfl ?_; simp_all; done) | (rw [arr_10 hkkind_10 hf0]; exact ⟨rfl, rfl⟩) | (rw [arr_8 hkkind_8 hf0]; exact ⟨rfl, rfl⟩) | (rw [arr_o (by omega) hf0]; exact ⟨rfl, rfl⟩))
       · -- guard no
        refine qn ?_
        refine qn ?_
        refine qn ?_
        refine qn ?_
        refine qn ?_
        refine qy a_pick ?_
        refine qy a_assign ?_
        refine qy a_assign ?_
        show _
        refine vc_ret ?_
        refine fin ?_
        simp only [fitsL, fits, C.asD, and_true]
        all_goals (first | (rw [arr_2 hkkind_2]; exact ⟨rfl, rfl⟩) | (rw [arr_3 hkkind_3]; refine pair_and rfl ?_; simp_all; done) | (rw [arr_9 hkkind_9]; exact ⟨rfl, rfl⟩) | (rw [arr_no hnkind_2 hnkind_3 hnkind_9 hf1]; exact ⟨rfl, rfl⟩) | (rw [arr_6 hkkind_6 hf0]; exact ⟨rfl, rfl⟩) | (rw [arr_7 hkkind_7 hf0]; refine pair_and rfl ?_; simp_all; done) | (rw [arr_10 hkkind_10 hf0]; exact ⟨rfl, rfl⟩) | (rw [arr_8 hkkind_8 hf0]; exact ⟨rfl, rfl⟩) | (rw [arr_o (by omega) hf0]; exact ⟨rfl, rfl⟩))
      · -- no
       have hnkind_7 : ¬ x.kind = 7 := by simpa using hc7
       refine vc_then ?_
       refine vc_region ?_
       refine vy (a_bin (hr := by first | exact pr_mul (wrap64 _ (mul_bound (find_worth hl hf0) (factor_ok hx (by omega)))) | exact pr_eql | exact pr_eqs | exact pr_eqb Try.underlying3)) ?_
       refine vy a_assign ?_
       refine vl_nil ?_
       refine vif (fun hc9 => ?_) (fun hc9 => ?_)
       · -- yes
        have hkkind_10 : x.kind = 10 := by simpa using hc9
        refine vc_then ?_
        refine vc_drawn0 T.mixed ?_
        first | refine qy (a_fr (hf := T.fo_30_1)) ?_ | refine qy (a_fa (hf := T.fo_30_1)) ?_
        first | refine qy (k_ldr T.ts_24) ?_ | refine qy (k_lda T.ts_24) ?_
        first | refine qy (a_fr (hf := T.fo_30_3)) ?_ | refine qy (a_fa (hf := T.fo_30_3)) ?_
        first | refine qy (k_ldr T.ts_9) ?_ | refine qy (k_lda T.ts_9) ?_
        refine qy (a_build (hb := by first | exact rfl | rfl) (hr := by first | rfl)) ?_
        refine qy (a_lit (xs := [_]) (hT := T.ef_22) (hz := T.zs_27)) ?_
        first | refine qy (a_fr (hf := T.fo_27_1)) ?_ | refine qy (a_fa (hf := T.fo_27_1)) ?_
        first | refine qy (k_ldr T.ts_3) ?_ | refine qy (k_lda T.ts_3) ?_
        refine qy (a_bin (hr := by first | exact pr_mul (wrap64 _ (mul_bound (find_worth hl hf0) (factor_ok hx (by omega)))) | exact pr_eql | exact pr_eqs | exact pr_eqb Try.underlying3)) ?_
        refine qy a_assign ?_
        refine qy a_assign ?_
        show _
        refine vc_ret ?_
        refine fin ?_
        simp only [fitsL, fits, C.asD, and_true]
        all_goals (first | (rw [arr_2 hkkind_2]; exact ⟨rfl, rfl⟩) | (rw [arr_3 hkkind_3]; refine pair_and rfl ?_; simp_all; done) | (rw [arr_9 hkkind_9]; exact ⟨rfl, rfl⟩) | (rw [arr_no hnkind_2 hnkind_3 hnkind_9 hf1]; exact ⟨rfl, rfl⟩) | (rw [arr_6 hkkind_6 hf0]; exact ⟨rfl, rfl⟩) | (rw [arr_7 hkkind_7 hf0]; refine pair_and rfl ?_; simp_all; done) | (rw [arr_10 hkkind_10 hf0]; exact ⟨rfl, rfl⟩) | (rw [arr_8 hkkind_8 hf0]; exact ⟨rfl, rfl⟩) | (rw [arr_o (by omega) hf0]; exact ⟨rfl, rfl⟩))
       · -- no
        have hnkind_10 : ¬ x.kind = 10 := by simpa using hc9
        refine vc_then ?_
        refine vc_region ?_
        refine vy (a_bin (hr := by first | exact pr_mul (wrap64 _ (mul_bound (find_worth hl hf0) (factor_ok hx (by omega)))) | exact pr_eql | exact pr_eqs | exact pr_eqb Try.underlying3)) ?_
        refine vy a_assign ?_
        refine vl_nil ?_
        refine vif (fun hc10 => ?_) (fun hc10 => ?_)
        · -- yes
         have hkkind_8 : x.kind = 8 := by simpa using hc10
         refine vc_then ?_
         refine vc_drawnN [13] T.mixed ?_
         first | refine qy (a_fr (hf := T.fo_30_1)) ?_ | refine qy (a_fa (hf := T.fo_30_1)) ?_
         first | refine qy (k_ldr T.ts_24) ?_ | refine qy (k_lda T.ts_24) ?_
         first | refine qy (a_fr (hf := T.fo_30_2)) ?_ | refine qy (a_fa (hf := T.fo_30_2)) ?_
         first | refine qy (k_ldr T.ts_9) ?_ | refine qy (k_lda T.ts_9) ?_
         first | refine qy (a_fr (hf := T.fo_30_6)) ?_ | refine qy (a_fa (hf := T.fo_30_6)) ?_
         first | refine qy (k_ldr T.ts_28) ?_ | refine qy (k_lda T.ts_28) ?_
         refine qy (a_call (hf := T.en_128) (hc := by exact froms_any _ (by first | exact hx0.2.1 | exact hx0.2.2))) ?_
         refine qy (a_build (hb := by first | exact rfl | rfl) (hr := by first | rfl)) ?_
         refine qs (c_alloc (hz := T.zo_27)) ?_
         refine qs (c_store T.ts_27) ?_
         show _
         refine vc_then ?_
         refine vc_drawnN [14] T.mixed ?_
         first | refine qy (a_fr (hf := T.fo_30_1)) ?_ | refine qy (a_fa (hf := T.fo_30_1)) ?_
         first | refine qy (k_ldr T.ts_24) ?_ | refine qy (k_lda T.ts_24) ?_
         first | refine qy (a_fr (hf := T.fo_30_3)) ?_ | refine qy (a_fa (hf := T.fo_30_3)) ?_
         first | refine qy (k_ldr T.ts_9) ?_ | refine qy (k_lda T.ts_9) ?_
         first | refine qy (a_fr (hf := T.fo_30_7)) ?_ | refine qy (a_fa (hf := T.fo_30_7)) ?_
         first | refine qy (k_ldr T.ts_28) ?_ | refine qy (k_lda T.ts_28) ?_
         refine qy (a_call (hf := T.en_128) (hc := by exact froms_any _ (by first | exact hx0.2.1 | exact hx0.2.2))) ?_
         refine qy (a_build (hb := by first | exact rfl | rfl) (hr := by first | rfl)) ?_
         refine qs (c_alloc (hz := T.zo_27)) ?_
         refine qs (c_store T.ts_27) ?_
         show _
         refine vc_then ?_
         refine vc_drawn0 T.mixed ?_
         first | refine qy (k_ldr T.ts_27) ?_ | refine qy (k_lda T.ts_27) ?_
         refine qy (a_lit (xs := [_]) (hT := T.ef_22) (hz := T.zs_27)) ?_
         first | refine qy (k_ldr T.ts_27) ?_ | refine qy (k_lda T.ts_27) ?_
         first | refine qy (k_ldr T.ts_27) ?_ | refine qy (k_lda T.ts_27) ?_
         refine qy (a_call (hf := T.en_93) (hc := by first | exact fieldSame_any _ x.field (find_ok ho) | exact fieldSame_any _ ⟨x.at_, 3, x.name, froms x.forth, 0⟩ (find_ok ho))) ?_
         refine qy a_assign ?_
         refine qy a_assign ?_
         show _
         refine vc_ret ?_
         refine fin ?_
         simp only [fitsL, fits, C.asD, and_true]
         all_goals (first | (rw [arr_2 hkkind_2]; exact ⟨rfl, rfl⟩) | (rw [arr_3 hkkind_3]; refine pair_and rfl ?_; simp_all; done) | (rw [arr_9 hkkind_9]; exact ⟨rfl, rfl⟩) | (rw [arr_no hnkind_2 hnkind_3 hnkind_9 hf1]; exact ⟨rfl, rfl⟩) | (rw [arr_6 hkkind_6 hf0]; exact ⟨rfl, rfl⟩) | (rw [arr_7 hkkind_7 hf0]; refine pair_and rfl ?_; simp_all; done) | (rw [arr_10 hkkind_10 hf0]; exact ⟨rfl, rfl⟩) | (rw [arr_8 hkkind_8 hf0]; exact ⟨rfl, rfl⟩) | (rw [arr_o (by omega) hf0]; exact ⟨rfl, rfl⟩))
        · -- no
         have hnkind_8 : ¬ x.kind = 8 := by simpa using hc10
         refine vc_skip ?_
         refine vc_then ?_
         refine vc_region ?_
         refine vy a_move ?_
         refine vy (a_ix (hT := T.es_40) (h0 := by first | omega | decide) (hy := by first | exact go9_0 (by omega) | exact go9_1 (by omega) | exact co6_0 (by omega) | exact co6_1 (by omega) | exact co_0 (by omega))) ?_
         first | refine vy (k_ldr T.ts_24) ?_ | refine vy (k_lda T.ts_24) ?_
         first | refine vy (a_fr (hf := T.fo_27_0)) ?_ | refine vy (a_fa (hf := T.fo_27_0)) ?_
         refine vs (b_store T.ts_24) ?_
         refine vl_nil ?_
         refine vc_then ?_
         refine vc_region ?_
         first | refine vy (k_ldr T.ts_27) ?_ | refine vy (k_lda T.ts_27) ?_
         refine vy (a_lit (xs := [_]) (hT := T.ef_22) (hz := T.zs_27)) ?_
         refine vy a_assign ?_
         refine vy a_assign ?_
         refine vl_nil ?_
         refine vc_ret ?_
         refine fin ?_
         simp only [fitsL, fits, C.asD, and_true]
         all_goals (first | (rw [arr_2 hkkind_2]; exact ⟨rfl, rfl⟩) | (rw [arr_3 hkkind_3]; refine pair_and rfl ?_; simp_all; done) | (rw [arr_9 hkkind_9]; exact ⟨rfl, rfl⟩) | (rw [arr_no hnkind_2 hnkind_3 hnkind_9 hf1]; exact ⟨rfl, rfl⟩) | (rw [arr_6 hkkind_6 hf0]; exact ⟨rfl, rfl⟩) | (rw [arr_7 hkkind_7 hf0]; refine pair_and rfl ?_; simp_all; done) | (rw [arr_10 hkkind_10 hf0]; exact ⟨rfl, rfl⟩) | (rw [arr_8 hkkind_8 hf0]; exact ⟨rfl, rfl⟩) | (rw [arr_o (by omega) hf0]; exact ⟨rfl, rfl⟩))
end Go.Vm
