/- The walks of lenses. Printed by lens_lens.py. -/
import Derived.Test.YthkgbmekiclgmaaLnLens
namespace Go.Vm
open Go.RowKit Go.Proofs
set_option linter.unusedVariables false
set_option linter.unusedSimpArgs false
set_option maxRecDepth 10000

set_option maxHeartbeats 1000000 in
theorem lensRight_any (x : LensD) (hx0 : okX x) : Contract Try.prog 29 [lD x] [.d (.sc (.bool (rightL x)))] := by
 refine fn_of (N := 88) [.tmp 2] Try.func29 ?_
 simp only [envUp, Nat.zero_add, Nat.reduceAdd]
 refine vc_then ?_
 refine vc_region ?_
 refine vs b_box ?_
 refine vy a_assign ?_
 refine vl_nil ?_
 refine vc_then ?_
 refine vc_region ?_
 first | refine vy (k_ldr T.ts_30) ?_ | refine vy (k_lda T.ts_30) ?_
 refine vy (a_call (hf := T.en_87) (hc := by exact parts_any _ hx0)) ?_
 refine vy a_move ?_
 refine vy a_ext ?_
 refine vy a_ext ?_
 refine vs (b_alloc (hz := T.zo_30)) ?_
 refine vs (b_store T.ts_30) ?_
 refine vy a_assign ?_
 refine vl_nil ?_
 refine vc_then ?_
 refine vc_then ?_
 refine vc_region ?_
 refine vy a_move ?_
 refine vy a_not ?_
 refine vy a_move ?_
 refine vb 12 (fun hg1 => ?_) (fun hg1 => ?_)
 · -- guard yes
  refine vn ?_
  refine vn ?_
  refine vn ?_
  refine vn ?_
  refine vy a_pick ?_
  refine vl_nil ?_
  refine vif (fun hc2 => ?_) (fun hc2 => ?_)
  · -- yes
   refine vc_then ?_
   refine vc_region ?_
   refine vy a_assign ?_
   refine vl_nil ?_
   refine vc_ret ?_
   refine fin ?_
   simp only [fitsL, fits, C.asD, and_true]
   all_goals (refine scb ?_; rw [← rightLp_eq, rightLp_q]; generalize (partsL x).2 = b2 at *; generalize decide (x = (partsL x).1) = b1 at *; unfold rightLq; first | (simp_all; done) | (simp_all [emp]; done) | grind)
  · -- no
   first | (exfalso; have hdead := hc2; simp at hdead <;> omega) | (exfalso; simp_all; done)
 · -- guard no
  first | refine vy (k_ldr T.ts_30) ?_ | refine vy (k_lda T.ts_30) ?_
  first | refine vy (k_ldr T.ts_30) ?_ | refine vy (k_lda T.ts_30) ?_
  refine vy (a_call (hf := T.en_30) (hc := by exact lensSame_any _ _ (by first | assumption | exact hx0))) ?_
  refine vy a_not ?_
  refine vy a_pick ?_
  refine vl_nil ?_
  refine vif (fun hc3 => ?_) (fun hc3 => ?_)
  · -- yes
   refine vc_then ?_
   refine vc_region ?_
   refine vy a_assign ?_
   refine vl_nil ?_
   refine vc_ret ?_
   refine fin ?_
   simp only [fitsL, fits, C.asD, and_true]
   all_goals (refine scb ?_; rw [← rightLp_eq, rightLp_q]; generalize (partsL x).2 = b2 at *; generalize decide (x = (partsL x).1) = b1 at *; unfold rightLq; first | (simp_all; done) | (simp_all [emp]; done) | grind)
  · -- no
   refine vc_skip ?_
   refine vc_then ?_
   refine vc_then ?_
   refine vc_region ?_
   first | refine vy (a_fr (hf := T.fo_30_0)) ?_ | refine vy (a_fa (hf := T.fo_30_0)) ?_
   first | refine vy (k_ldr T.ts_3) ?_ | refine vy (k_lda T.ts_3) ?_
   refine vy (a_bin (hr := by first | exact pr_eql | exact pr_eqs | exact pr_eqb Try.underlying3)) ?_
   refine vy a_move ?_
   refine vb 21 (fun hg4 => ?_) (fun hg4 => ?_)
   · -- guard yes
    have hkkind_2 : x.kind = 2 := by simpa using hg4
    refine vn ?_
    refine vn ?_
    refine vn ?_
    refine vy a_pick ?_
    refine vl_nil ?_
    refine vif (fun hc5 => ?_) (fun hc5 => ?_)
    · -- yes
     refine vc_then ?_
     refine vc_region ?_
     first | refine vy (a_fr (hf := T.fo_30_5)) ?_ | refine vy (a_fa (hf := T.fo_30_5)) ?_
     first | refine vy (k_ldr T.ts_27) ?_ | refine vy (k_lda T.ts_27) ?_
     refine vy (a_call (hf := T.en_75) (hc := by exact fieldRight_any _ (by first | assumption | exact hx0.1))) ?_
     refine vy a_assign ?_
     refine vl_nil ?_
     refine vc_ret ?_
     refine fin ?_
     simp only [fitsL, fits, C.asD, and_true]
     all_goals (refine scb ?_; rw [← rightLp_eq, rightLp_q]; generalize (partsL x).2 = b2 at *; generalize decide (x = (partsL x).1) = b1 at *; unfold rightLq; first | (simp_all; done) | (simp_all [emp]; done) | grind)
    · -- no
     first | (exfalso; have hdead := hc5; simp at hdead <;> omega) | (exfalso; simp_all; done)
   · -- guard no
    have hnkind_2 : ¬ x.kind = 2 := by simpa using hg4
    first | refine vy (a_fr (hf := T.fo_30_0)) ?_ | refine vy (a_fa (hf := T.fo_30_0)) ?_
    first | refine vy (k_ldr T.ts_3) ?_ | refine vy (k_lda T.ts_3) ?_
    refine vy (a_bin (hr := by first | exact pr_eql | exact pr_eqs | exact pr_eqb Try.underlying3)) ?_
    refine vy a_pick ?_
    refine vl_nil ?_
    refine vif (fun hc6 => ?_) (fun hc6 => ?_)
    · -- yes
     have hkkind_3 : x.kind = 3 := by simpa using hc6
     refine vc_then ?_
     refine vc_region ?_
     first | refine vy (a_fr (hf := T.fo_30_5)) ?_ | refine vy (a_fa (hf := T.fo_30_5)) ?_
     first | refine vy (k_ldr T.ts_27) ?_ | refine vy (k_lda T.ts_27) ?_
     refine vy (a_call (hf := T.en_75) (hc := by exact fieldRight_any _ (by first | assumption | exact hx0.1))) ?_
     refine vy a_assign ?_
     refine vl_nil ?_
     refine vc_ret ?_
     refine fin ?_
     simp only [fitsL, fits, C.asD, and_true]
     all_goals (refine scb ?_; rw [← rightLp_eq, rightLp_q]; generalize (partsL x).2 = b2 at *; generalize decide (x = (partsL x).1) = b1 at *; unfold rightLq; first | (simp_all; done) | (simp_all [emp]; done) | grind)
    · -- no
     have hnkind_3 : ¬ x.kind = 3 := by simpa using hc6
     refine vc_skip ?_
     refine vc_then ?_
     refine vc_then ?_
     refine vc_region ?_
     first | refine vy (a_fr (hf := T.fo_30_1)) ?_ | refine vy (a_fa (hf := T.fo_30_1)) ?_
     first | refine vy (k_ldr T.ts_24) ?_ | refine vy (k_lda T.ts_24) ?_
     refine vy (a_call (hf := T.en_88) (hc := by exact place_any _)) ?_
     refine vy a_not ?_
     refine vl_nil ?_
     refine vif (fun hc7 => ?_) (fun hc7 => ?_)
     · -- yes
      refine vc_then ?_
      refine vc_region ?_
      refine vy a_assign ?_
      refine vl_nil ?_
      refine vc_ret ?_
      refine fin ?_
      simp only [fitsL, fits, C.asD, and_true]
      all_goals (refine scb ?_; rw [← rightLp_eq, rightLp_q]; generalize (partsL x).2 = b2 at *; generalize decide (x = (partsL x).1) = b1 at *; unfold rightLq; first | (simp_all; done) | (simp_all [emp]; done) | grind)
     · -- no
      refine vc_skip ?_
      refine vc_then ?_
      refine vc_then ?_
      refine vc_region ?_
      first | refine vy (a_fr (hf := T.fo_30_0)) ?_ | refine vy (a_fa (hf := T.fo_30_0)) ?_
      first | refine vy (k_ldr T.ts_3) ?_ | refine vy (k_lda T.ts_3) ?_
      refine vl_nil ?_
      refine vc_block ?_
      refine vc_then ?_
      refine vc_region ?_
      refine vy (a_bin (hr := by first | exact pr_eql | exact pr_eqs | exact pr_eqb Try.underlying3)) ?_
      refine vy a_assign ?_
      refine vl_nil ?_
      refine vif (fun hc8 => ?_) (fun hc8 => ?_)
      · -- yes
       have hkkind_1 : x.kind = 1 := by simpa using hc8
       refine vc_then ?_
       refine vc_region ?_
       first | refine vy (a_fr (hf := T.fo_30_2)) ?_ | refine vy (a_fa (hf := T.fo_30_2)) ?_
       first | refine vy (k_ldr T.ts_9) ?_ | refine vy (k_lda T.ts_9) ?_
       refine vy (a_call (hf := T.en_89) (hc := by exact name_any _)) ?_
       refine vy a_assign ?_
       refine vl_nil ?_
       refine vc_ret ?_
       refine fin ?_
       simp only [fitsL, fits, C.asD, and_true]
       all_goals (refine scb ?_; rw [← rightLp_eq, rightLp_q]; generalize (partsL x).2 = b2 at *; generalize decide (x = (partsL x).1) = b1 at *; unfold rightLq; first | (simp_all; done) | (simp_all [emp]; done) | grind)
      · -- no
       have hnkind_1 : ¬ x.kind = 1 := by simpa using hc8
       refine vc_then ?_
       refine vc_region ?_
       refine vy (a_bin (hr := by first | exact pr_eql | exact pr_eqs | exact pr_eqb Try.underlying3)) ?_
       refine vy a_assign ?_
       refine vl_nil ?_
       refine vif (fun hc9 => ?_) (fun hc9 => ?_)
       · -- yes
        have hkkind_4 : x.kind = 4 := by simpa using hc9
        refine vc_then ?_
        refine vc_region ?_
        first | refine vy (a_fr (hf := T.fo_30_1)) ?_ | refine vy (a_fa (hf := T.fo_30_1)) ?_
        first | refine vy (a_fr (hf := T.fo_24_1)) ?_ | refine vy (a_fa (hf := T.fo_24_1)) ?_
        first | refine vy (k_ldr T.ts_9) ?_ | refine vy (k_lda T.ts_9) ?_
        refine vy (a_bin (hr := by first | exact pr_neq | exact pr_nes | exact pr_neb Try.underlying9)) ?_
        refine vy a_assign ?_
        refine vl_nil ?_
        refine vc_ret ?_
        refine fin ?_
        simp only [fitsL, fits, C.asD, and_true]
        all_goals (refine scb ?_; rw [← rightLp_eq, rightLp_q]; generalize (partsL x).2 = b2 at *; generalize decide (x = (partsL x).1) = b1 at *; unfold rightLq; first | (simp_all; done) | (simp_all [emp]; done) | grind)
       · -- no
        have hnkind_4 : ¬ x.kind = 4 := by simpa using hc9
        refine vc_then ?_
        refine vc_region ?_
        refine vy (a_bin (hr := by first | exact pr_eql | exact pr_eqs | exact pr_eqb Try.underlying3)) ?_
        refine vy a_assign ?_
        refine vl_nil ?_
        refine vif (fun hc10 => ?_) (fun hc10 => ?_)
        · -- yes
         have hkkind_5 : x.kind = 5 := by simpa using hc10
         refine vc_then ?_
         refine vc_region ?_
         first | refine vy (a_fr (hf := T.fo_30_1)) ?_ | refine vy (a_fa (hf := T.fo_30_1)) ?_
         first | refine vy (a_fr (hf := T.fo_24_1)) ?_ | refine vy (a_fa (hf := T.fo_24_1)) ?_
         first | refine vy (k_ldr T.ts_9) ?_ | refine vy (k_lda T.ts_9) ?_
         refine vy (a_bin (hr := by first | exact pr_eql | exact pr_eqs | exact pr_eqb Try.underlying9)) ?_
         refine vy a_move ?_
         refine vb 52 (fun hg11 => ?_) (fun hg11 => ?_)
         · -- guard yes
          first | refine vy (a_fr (hf := T.fo_30_2)) ?_ | refine vy (a_fa (hf := T.fo_30_2)) ?_
          first | refine vy (k_ldr T.ts_9) ?_ | refine vy (k_lda T.ts_9) ?_
          refine vy (a_call (hf := T.en_89) (hc := by exact name_any _)) ?_
          refine vy a_pick ?_
          refine vy a_assign ?_
          refine vl_nil ?_
          refine vc_ret ?_
          refine fin ?_
          simp only [fitsL, fits, C.asD, and_true]
          all_goals (refine scb ?_; rw [← rightLp_eq, rightLp_q]; generalize (partsL x).2 = b2 at *; generalize decide (x = (partsL x).1) = b1 at *; unfold rightLq; first | (simp_all; done) | (simp_all [emp]; done) | grind)
         · -- guard no
          refine vn ?_
          refine vn ?_
          refine vn ?_
          refine vy a_pick ?_
          refine vy a_assign ?_
          refine vl_nil ?_
          refine vc_ret ?_
          refine fin ?_
          simp only [fitsL, fits, C.asD, and_true]
          all_goals (refine scb ?_; rw [← rightLp_eq, rightLp_q]; generalize (partsL x).2 = b2 at *; generalize decide (x = (partsL x).1) = b1 at *; unfold rightLq; first | (simp_all; done) | (simp_all [emp]; done) | grind)
        · -- no
         have hnkind_5 : ¬ x.kind = 5 := by simpa using hc10
         refine vc_then ?_
         refine vc_then ?_
         refine vc_region ?_
         refine vy (a_bin (hr := by first | exact pr_eql | exact pr_eqs | exact pr_eqb Try.underlying3)) ?_
         refine vy a_assign ?_
         refine vl_nil ?_
         refine vif (fun hc12 => ?_) (fun hc12 => ?_)
         · -- yes
          have hkkind_6 : x.kind = 6 := by simpa using hc12
          refine vc_skip ?_
          refine vif (fun hc13 => ?_) (fun hc13 => ?_)
          · -- yes
           have hkkind_6 : x.kind = 6 := by simpa using hc13
           refine vc_then ?_
           refine vc_region ?_
           first | refine vy (a_fr (hf := T.fo_30_2)) ?_ | refine vy (a_fa (hf := T.fo_30_2)) ?_
           first | refine vy (k_ldr T.ts_9) ?_ | refine vy (k_lda T.ts_9) ?_
           refine vy (a_call (hf := T.en_89) (hc := by exact name_any _)) ?_
           refine vy a_move ?_
           refine vb 63 (fun hg14 => ?_) (fun hg14 => ?_)
           · -- guard yes
            first | refine vy (a_fr (hf := T.fo_30_3)) ?_ | refine vy (a_fa (hf := T.fo_30_3)) ?_
            first | refine vy (k_ldr T.ts_9) ?_ | refine vy (k_lda T.ts_9) ?_
            refine vy (a_call (hf := T.en_89) (hc := by exact name_any _)) ?_
            refine vy a_pick ?_
            refine vy a_move ?_
            refine vb 68 (fun hg15 => ?_) (fun hg15 => ?_)
            · -- guard yes
             first | refine vy (a_fr (hf := T.fo_30_2)) ?_ | refine vy (a_fa (hf := T.fo_30_2)) ?_
             first | refine vy (k_ldr T.ts_9) ?_ | refine vy (k_lda T.ts_9) ?_
             first | refine vy (a_fr (hf := T.fo_30_3)) ?_ | refine vy (a_fa (hf := T.fo_30_3)) ?_
             first | refine vy (k_ldr T.ts_9) ?_ | refine vy (k_lda T.ts_9) ?_
             refine vy (a_bin (hr := by first | exact pr_neq | exact pr_nes | exact pr_neb Try.underlying9)) ?_
             refine vy a_pick ?_
             refine vy a_move ?_
             refine vb 75 (fun hg16 => ?_) (fun hg16 => ?_)
             · -- guard yes
              first | refine vy (a_fr (hf := T.fo_30_4)) ?_ | refine vy (a_fa (hf := T.fo_30_4)) ?_
              first | refine vy (k_ldr T.ts_2) ?_ | refine vy (k_lda T.ts_2) ?_
              refine vy (a_call (hf := T.en_90) (hc := by exact factor_any _)) ?_
              refine vy a_pick ?_
              refine vy a_assign ?_
              refine vl_nil ?_
              refine vc_ret ?_
              refine fin ?_
              simp only [fitsL, fits, C.asD, and_true]
              all_goals (refine scb ?_; rw [← rightLp_eq, rightLp_q]; generalize (partsL x).2 = b2 at *; generalize decide (x = (partsL x).1) = b1 at *; unfold rightLq; first | (simp_all; done) | (simp_all [emp]; done) | grind)
             · -- guard no
              refine vn ?_
              refine vn ?_
              refine vn ?_
              refine vy a_pick ?_
              refine vy a_assign ?_
              refine vl_nil ?_
              refine vc_ret ?_
              refine fin ?_
              simp only [fitsL, fits, C.asD, and_true]
              all_goals (refine scb ?_; rw [← rightLp_eq, rightLp_q]; generalize (partsL x).2 = b2 at *; generalize decide (x = (partsL x).1) = b1 at *; unfold rightLq; first | (simp_all; done) | (simp_all [emp]; done) | grind)
            · -- guard no
             refine vn ?_
             refine vn ?_
             refine vn ?_
             refine vn ?_
             refine vn ?_
             refine vy a_pick ?_
             refine vy a_move ?_
             refine vn ?_
             refine vn ?_
             refine vn ?_
             refine vy a_pick ?_
             refine vy a_assign ?_
             refine vl_nil ?_
             refine vc_ret ?_
             refine fin ?_
             simp only [fitsL, fits, C.asD, and_true]
             all_goals (refine scb ?_; rw [← rightLp_eq, rightLp_q]; generalize (partsL x).2 = b2 at *; generalize decide (x = (partsL x).1) = b1 at *; unfold rightLq; first | (simp_all; done) | (simp_all [emp]; done) | grind)
           · -- guard no
            refine vn ?_
            refine vn ?_
            refine vn ?_
            refine vy a_pick ?_
            refine vy a_move ?_
            refine vn ?_
            refine vn ?_
            refine vn ?_
            refine vn ?_
            refine vn ?_
            refine vy a_pick ?_
            refine vy a_move ?_
            refine vn ?_
            refine vn ?_
            refine vn ?_
            refine vy a_pick ?_
            refine vy a_assign ?_
            refine vl_nil ?_
            refine vc_ret ?_
            refine fin ?_
            simp only [fitsL, fits, C.asD, and_true]
            all_goals (refine scb ?_; rw [← rightLp_eq, rightLp_q]; generalize (partsL x).2 = b2 at *; generalize decide (x = (partsL x).1) = b1 at *; unfold rightLq; first | (simp_all; done) | (simp_all [emp]; done) | grind)
          · -- no
           first | (exfalso; have hdead := hc13; simp at hdead <;> omega) | (exfalso; simp_all; done)
         · -- no
          have hnkind_6 : ¬ x.kind = 6 := by simpa using hc12
          refine vc_region ?_
          refine vy (a_bin (hr := by first | exact pr_eql | exact pr_eqs | exact pr_eqb Try.underlying3)) ?_
          refine vy a_assign ?_
          refine vl_nil ?_
          refine vif (fun hc17 => ?_) (fun hc17 => ?_)
          · -- yes
           have hkkind_9 : x.kind = 9 := by simpa using hc17
           refine vc_then ?_
           refine vc_region ?_
           first | refine vy (a_fr (hf := T.fo_30_2)) ?_ | refine vy (a_fa (hf := T.fo_30_2)) ?_
           first | refine vy (k_ldr T.ts_9) ?_ | refine vy (k_lda T.ts_9) ?_
           refine vy (a_call (hf := T.en_89) (hc := by exact name_any _)) ?_
           refine vy a_move ?_
           refine vb 63 (fun hg18 => ?_) (fun hg18 => ?_)
           · -- guard yes
            first | refine vy (a_fr (hf := T.fo_30_3)) ?_ | refine vy (a_fa (hf := T.fo_30_3)) ?_
            first | refine vy (k_ldr T.ts_9) ?_ | refine vy (k_lda T.ts_9) ?_
            refine vy (a_call (hf := T.en_89) (hc := by exact name_any _)) ?_
            refine vy a_pick ?_
            refine vy a_move ?_
            refine vb 68 (fun hg19 => ?_) (fun hg19 => ?_)
            · -- guard yes
             first | refine vy (a_fr (hf := T.fo_30_2)) ?_ | refine vy (a_fa (hf := T.fo_30_2)) ?_
             first | refine vy (k_ldr T.ts_9) ?_ | refine vy (k_lda T.ts_9) ?_
             first | refine vy (a_fr (hf := T.fo_30_3)) ?_ | refine vy (a_fa (hf := T.fo_30_3)) ?_
             first | refine vy (k_ldr T.ts_9) ?_ | refine vy (k_lda T.ts_9) ?_
             refine vy (a_bin (hr := by first | exact pr_neq | exact pr_nes | exact pr_neb Try.underlying9)) ?_
             refine vy a_pick ?_
             refine vy a_move ?_
             refine vb 75 (fun hg20 => ?_) (fun hg20 => ?_)
             · -- guard yes
              first | refine vy (a_fr (hf := T.fo_30_4)) ?_ | refine vy (a_fa (hf := T.fo_30_4)) ?_
              first | refine vy (k_ldr T.ts_2) ?_ | refine vy (k_lda T.ts_2) ?_
              refine vy (a_call (hf := T.en_90) (hc := by exact factor_any _)) ?_
              refine vy a_pick ?_
              refine vy a_assign ?_
              refine vl_nil ?_
              refine vc_ret ?_
              refine fin ?_
              simp only [fitsL, fits, C.asD, and_true]
              all_goals (refine scb ?_; rw [← rightLp_eq, rightLp_q]; generalize (partsL x).2 = b2 at *; generalize decide (x = (partsL x).1) = b1 at *; unfold rightLq; first | (simp_all; done) | (simp_all [emp]; done) | grind)
             · -- guard no
              refine vn ?_
              refine vn ?_
              refine vn ?_
              refine vy a_pick ?_
              refine vy a_assign ?_
              refine vl_nil ?_
              refine vc_ret ?_
              refine fin ?_
              simp only [fitsL, fits, C.asD, and_true]
              all_goals (refine scb ?_; rw [← rightLp_eq, rightLp_q]; generalize (partsL x).2 = b2 at *; generalize decide (x = (partsL x).1) = b1 at *; unfold rightLq; first | (simp_all; done) | (simp_all [emp]; done) | grind)
            · -- guard no
             refine vn ?_
             refine vn ?_
             refine vn ?_
             refine vn ?_
             refine vn ?_
             refine vy a_pick ?_
             refine vy a_move ?_
             refine vn ?_
             refine vn ?_
             refine vn ?_
             refine vy a_pick ?_
             refine vy a_assign ?_
             refine vl_nil ?_
             refine vc_ret ?_
             refine fin ?_
             simp only [fitsL, fits, C.asD, and_true]
             all_goals (refine scb ?_; rw [← rightLp_eq, rightLp_q]; generalize (partsL x).2 = b2 at *; generalize decide (x = (partsL x).1) = b1 at *; unfold rightLq; first | (simp_all; done) | (simp_all [emp]; done) | grind)
           · -- guard no
            refine vn ?_
            refine vn ?_
            refine vn ?_
            refine vy a_pick ?_
            refine vy a_move ?_
            refine vn ?_
            refine vn ?_
            refine vn ?_
            refine vn ?_
            refine vn ?_
            refine vy a_pick ?_
            refine vy a_move ?_
            refine vn ?_
            refine vn ?_
            refine vn ?_
            refine vy a_pick ?_
            refine vy a_assign ?_
            refine vl_nil ?_
            refine vc_ret ?_
            refine fin ?_
            simp only [fitsL, fits, C.asD, and_true]
            all_goals (refine scb ?_; rw [← rightLp_eq, rightLp_q]; generalize (partsL x).2 = b2 at *; generalize decide (x = (partsL x).1) = b1 at *; unfold rightLq; first | (simp_all; done) | (simp_all [emp]; done) | grind)
          · -- no
           have hnkind_9 : ¬ x.kind = 9 := by simpa using hc17
           refine vc_then ?_
           refine vc_then ?_
           refine vc_region ?_
           refine vy (a_bin (hr := by first | exact pr_eql | exact pr_eqs | exact pr_eqb Try.underlying3)) ?_
           refine vy a_assign ?_
           refine vl_nil ?_
           refine vif (fun hc21 => ?_) (fun hc21 => ?_)
           · -- yes
            have hkkind_7 : x.kind = 7 := by simpa using hc21
            refine vc_skip ?_
            refine vif (fun hc22 => ?_) (fun hc22 => ?_)
            · -- yes
             have hkkind_7 : x.kind = 7 := by simpa using hc22
             refine vc_then ?_
             refine vc_region ?_
             first | refine vy (a_fr (hf := T.fo_30_3)) ?_ | refine vy (a_fa (hf := T.fo_30_3)) ?_
             first | refine vy (k_ldr T.ts_9) ?_ | refine vy (k_lda T.ts_9) ?_
             refine vy (a_call (hf := T.en_91) (hc := by exact text_any _)) ?_
             refine vy a_assign ?_
             refine vl_nil ?_
             refine vc_ret ?_
             refine fin ?_
             simp only [fitsL, fits, C.asD, and_true]
             all_goals (refine scb ?_; rw [← rightLp_eq, rightLp_q]; generalize (partsL x).2 = b2 at *; generalize decide (x = (partsL x).1) = b1 at *; unfold rightLq; first | (simp_all; done) | (simp_all [emp]; done) | grind)
            · -- no
             first | (exfalso; have hdead := hc22; simp at hdead <;> omega) | (exfalso; simp_all; done)
           · -- no
            have hnkind_7 : ¬ x.kind = 7 := by simpa using hc21
            refine vc_region ?_
            refine vy (a_bin (hr := by first | exact pr_eql | exact pr_eqs | exact pr_eqb Try.underlying3)) ?_
            refine vy a_assign ?_
            refine vl_nil ?_
            refine vif (fun hc23 => ?_) (fun hc23 => ?_)
            · -- yes
             have hkkind_10 : x.kind = 10 := by simpa using hc23
             refine vc_then ?_
             refine vc_region ?_
             first | refine vy (a_fr (hf := T.fo_30_3)) ?_ | refine vy (a_fa (hf := T.fo_30_3)) ?_
             first | refine vy (k_ldr T.ts_9) ?_ | refine vy (k_lda T.ts_9) ?_
             refine vy (a_call (hf := T.en_91) (hc := by exact text_any _)) ?_
             refine vy a_assign ?_
             refine vl_nil ?_
             refine vc_ret ?_
             refine fin ?_
             simp only [fitsL, fits, C.asD, and_true]
             all_goals (refine scb ?_; rw [← rightLp_eq, rightLp_q]; generalize (partsL x).2 = b2 at *; generalize decide (x = (partsL x).1) = b1 at *; unfold rightLq; first | (simp_all; done) | (simp_all [emp]; done) | grind)
            · -- no
             have hnkind_10 : ¬ x.kind = 10 := by simpa using hc23
             refine vc_skip ?_
             refine vc_then ?_
             refine vc_region ?_
             first | refine vy (k_ldr T.ts_30) ?_ | refine vy (k_lda T.ts_30) ?_
             refine vy (a_call (hf := T.en_92) (hc := by exact rightTables_any _ hx0)) ?_
             refine vy a_assign ?_
             refine vl_nil ?_
             refine vc_ret ?_
             refine fin ?_
             simp only [fitsL, fits, C.asD, and_true]
             all_goals (refine scb ?_; rw [← rightLp_eq, rightLp_q]; generalize (partsL x).2 = b2 at *; generalize decide (x = (partsL x).1) = b1 at *; unfold rightLq; first | (simp_all; done) | (simp_all [emp]; done) | grind)

set_option maxHeartbeats 1000000 in
theorem tables_any (x : LensD) : Contract Try.prog 82 [lD x] [.d (.sc (.bool (!(decide (x.forth.length = 0) && decide (x.back.length = 0)))))] := by
 refine fn_of (N := 13) [.tmp 2] Try.func82 ?_
 simp only [envUp, Nat.zero_add, Nat.reduceAdd]
 refine vc_then ?_
 refine vc_region ?_
 refine vs b_box ?_
 refine vy a_assign ?_
 refine vl_nil ?_
 refine vc_then ?_
 refine vc_region ?_
 first | refine vy (a_fr (hf := T.fo_30_6)) ?_ | refine vy (a_fa (hf := T.fo_30_6)) ?_
 first | refine vy (k_ldr T.ts_28) ?_ | refine vy (k_lda T.ts_28) ?_
 refine vy (a_len (hT := T.es_28)) ?_
 refine vy (a_bin (hr := by first | exact pr_gtr)) ?_
 refine vy a_move ?_
 refine vb 7 (fun hg1 => ?_) (fun hg1 => ?_)
 · -- guard yes
  refine vn ?_
  refine vn ?_
  refine vn ?_
  refine vn ?_
  refine vy a_pick ?_
  refine vy a_assign ?_
  refine vl_nil ?_
  refine vc_ret ?_
  refine fin ?_
  simp only [fitsL, fits, C.asD, and_true]
  all_goals (refine scb ?_; first | (symm; simp only [decide_eq_true_eq, decide_eq_false_iff_not, Bool.not_eq_true', Bool.not_eq_false', Bool.and_eq_true, Bool.or_eq_true, Bool.or_eq_false_iff, Bool.and_eq_false_iff, beq_iff_eq, beq_eq_false_iff_ne, ne_eq, Bool.not_true, Bool.not_false, Bool.false_eq_true, Bool.true_eq_false] at * <;> omega) | (rw [Bool.eq_iff_iff]; simp only [decide_eq_true_eq, decide_eq_false_iff_not, Bool.not_eq_true', Bool.not_eq_false', Bool.and_eq_true, Bool.or_eq_true, Bool.or_eq_false_iff, Bool.and_eq_false_iff, beq_iff_eq, beq_eq_false_iff_ne, ne_eq, Bool.not_true, Bool.not_false, Bool.false_eq_true, Bool.true_eq_false] at * <;> omega))
 · -- guard no
  first | refine vy (a_fr (hf := T.fo_30_7)) ?_ | refine vy (a_fa (hf := T.fo_30_7)) ?_
  first | refine vy (k_ldr T.ts_28) ?_ | refine vy (k_lda T.ts_28) ?_
  refine vy (a_len (hT := T.es_28)) ?_
  refine vy (a_bin (hr := by first | exact pr_gtr)) ?_
  refine vy a_pick ?_
  refine vy a_assign ?_
  refine vl_nil ?_
  refine vc_ret ?_
  refine fin ?_
  simp only [fitsL, fits, C.asD, and_true]
  all_goals (refine scb ?_; first | (symm; simp only [decide_eq_true_eq, decide_eq_false_iff_not, Bool.not_eq_true', Bool.not_eq_false', Bool.and_eq_true, Bool.or_eq_true, Bool.or_eq_false_iff, Bool.and_eq_false_iff, beq_iff_eq, beq_eq_false_iff_ne, ne_eq, Bool.not_true, Bool.not_false, Bool.false_eq_true, Bool.true_eq_false] at * <;> omega) | (rw [Bool.eq_iff_iff]; simp only [decide_eq_true_eq, decide_eq_false_iff_not, Bool.not_eq_true', Bool.not_eq_false', Bool.and_eq_true, Bool.or_eq_true, Bool.or_eq_false_iff, Bool.and_eq_false_iff, beq_iff_eq, beq_eq_false_iff_ne, ne_eq, Bool.not_true, Bool.not_false, Bool.false_eq_true, Bool.true_eq_false] at * <;> omega))

set_option maxHeartbeats 1000000 in
theorem none_any (x : LensD) (hx0 : okX x) : Contract Try.prog 84 [lD x] [.d (.sc (.bool (decide (x.field = noField))))] := by
 refine fn_of (N := 7) [.tmp 2] Try.func84 ?_
 simp only [envUp, Nat.zero_add, Nat.reduceAdd]
 refine vc_then ?_
 refine vc_region ?_
 refine vs b_box ?_
 refine vy a_assign ?_
 refine vl_nil ?_
 refine vc_then ?_
 refine vc_region ?_
 first | refine vy (a_fr (hf := T.fo_30_5)) ?_ | refine vy (a_fa (hf := T.fo_30_5)) ?_
 first | refine vy (k_ldr T.ts_27) ?_ | refine vy (k_lda T.ts_27) ?_
 refine vy (a_build (hb := by first | exact rfl | rfl) (hr := by first | exact (show _ = fD noField from rfl) | rfl)) ?_
 refine vy (a_call (hf := T.en_25) (hc := by exact refFieldSame_any _ _ (by first | assumption | exact hx0.1))) ?_
 refine vy a_assign ?_
 refine vl_nil ?_
 refine vc_ret ?_
 refine fin ?_
 simp only [fitsL, fits, C.asD, and_true]
 all_goals (rfl)

set_option maxHeartbeats 1000000 in
theorem refLensRight_any (x : LensD) (hx0 : okX x) : Contract Try.prog 28 [lD x] [.d (.sc (.bool (rightL x)))] := by
 refine fn_of (N := 197) [.tmp 2] Try.func28 ?_
 simp only [envUp, Nat.zero_add, Nat.reduceAdd]
 refine vc_then ?_
 refine vc_region ?_
 refine vs b_box ?_
 refine vy a_assign ?_
 refine vl_nil ?_
 refine vc_then ?_
 refine vc_then ?_
 refine vc_region ?_
 first | refine vy (a_fr (hf := T.fo_30_0)) ?_ | refine vy (a_fa (hf := T.fo_30_0)) ?_
 first | refine vy (k_ldr T.ts_3) ?_ | refine vy (k_lda T.ts_3) ?_
 refine vy (a_bin (hr := by first | exact pr_eql | exact pr_eqs | exact pr_eqb Try.underlying3)) ?_
 refine vy a_move ?_
 refine vb 10 (fun hg1 => ?_) (fun hg1 => ?_)
 · -- guard yes
  have hkkind_2 : x.kind = 2 := by simpa using hg1
  refine vn ?_
  refine vn ?_
  refine vn ?_
  refine vy a_pick ?_
  refine vl_nil ?_
  refine vif (fun hc2 => ?_) (fun hc2 => ?_)
  · -- yes
   refine vc_then ?_
   refine vc_region ?_
   first | refine vy (a_fr (hf := T.fo_30_1)) ?_ | refine vy (a_fa (hf := T.fo_30_1)) ?_
   first | refine vy (k_ldr T.ts_24) ?_ | refine vy (k_lda T.ts_24) ?_
   refine vy (a_build (hb := by first | exact rfl | rfl) (hr := by first | exact (show _ = rD noRef from rfl) | rfl)) ?_
   refine vy eq_24 ?_
   refine vy a_move ?_
   refine vb 19 (fun hg3 => ?_) (fun hg3 => ?_)
   · -- guard yes
    first | refine vy (a_fr (hf := T.fo_30_2)) ?_ | refine vy (a_fa (hf := T.fo_30_2)) ?_
    first | refine vy (k_ldr T.ts_9) ?_ | refine vy (k_lda T.ts_9) ?_
    refine vy (a_bin (hr := by first | exact pr_eql | exact pr_eqs | exact pr_eqb Try.underlying9)) ?_
    refine vy a_pick ?_
    refine vy a_move ?_
    refine vb 24 (fun hg4 => ?_) (fun hg4 => ?_)
    · -- guard yes
     first | refine vy (a_fr (hf := T.fo_30_3)) ?_ | refine vy (a_fa (hf := T.fo_30_3)) ?_
     first | refine vy (k_ldr T.ts_9) ?_ | refine vy (k_lda T.ts_9) ?_
     refine vy (a_bin (hr := by first | exact pr_eql | exact pr_eqs | exact pr_eqb Try.underlying9)) ?_
     refine vy a_pick ?_
     refine vy a_move ?_
     refine vb 29 (fun hg5 => ?_) (fun hg5 => ?_)
     · -- guard yes
      first | refine vy (a_fr (hf := T.fo_30_4)) ?_ | refine vy (a_fa (hf := T.fo_30_4)) ?_
      first | refine vy (k_ldr T.ts_2) ?_ | refine vy (k_lda T.ts_2) ?_
      refine vy (a_bin (hr := by first | exact pr_eql | exact pr_eqs | exact pr_eqb Try.underlying2)) ?_
      refine vy a_pick ?_
      refine vy a_move ?_
      refine vb 34 (fun hg6 => ?_) (fun hg6 => ?_)
      · -- guard yes
       first | refine vy (k_ldr T.ts_30) ?_ | refine vy (k_lda T.ts_30) ?_
       refine vy (a_call (hf := T.en_82) (hc := by exact tables_any _)) ?_
       refine vy a_not ?_
       refine vy a_pick ?_
       refine vy a_move ?_
       refine vb 39 (fun hg7 => ?_) (fun hg7 => ?_)
       · -- guard yes
        first | refine vy (a_fr (hf := T.fo_30_5)) ?_ | refine vy (a_fa (hf := T.fo_30_5)) ?_
        first | refine vy (k_ldr T.ts_27) ?_ | refine vy (k_lda T.ts_27) ?_
        refine vy (a_call (hf := T.en_77) (hc := by exact refFieldRight_any _ (by first | assumption | exact hx0.1))) ?_
        refine vy a_pick ?_
        refine vy a_assign ?_
        refine vl_nil ?_
        refine vc_ret ?_
        refine fin ?_
        simp only [fitsL, fits, C.asD, and_true]
        all_goals (refine scb ?_; unfold rightL; first | (simp_all; done) | (simp_all [emp]; done) | (rcases hcf : caseT x.forth x.name with ⟨a, b⟩; rcases hcb : caseT x.back x.other with ⟨c, d⟩; simp_all; done) | grind)
       · -- guard no
        refine vn ?_
        refine vn ?_
        refine vn ?_
        refine vy a_pick ?_
        refine vy a_assign ?_
        refine vl_nil ?_
        refine vc_ret ?_
        refine fin ?_
        simp only [fitsL, fits, C.asD, and_true]
        all_goals (refine scb ?_; unfold rightL; first | (simp_all; done) | (simp_all [emp]; done) | (rcases hcf : caseT x.forth x.name with ⟨a, b⟩; rcases hcb : caseT x.back x.other with ⟨c, d⟩; simp_all; done) | grind)
      · -- guard no
       refine vn ?_
       refine vn ?_
       refine vn ?_
       refine vy a_pick ?_
       refine vy a_move ?_
       refine vn ?_
       refine vn ?_
       refine vn ?_
       refine vy a_pick ?_
       refine vy a_assign ?_
       refine vl_nil ?_
       refine vc_ret ?_
       refine fin ?_
       simp only [fitsL, fits, C.asD, and_true]
       all_goals (refine scb ?_; unfold rightL; first | (simp_all; done) | (simp_all [emp]; done) | (rcases hcf : caseT x.forth x.name with ⟨a, b⟩; rcases hcb : caseT x.back x.other with ⟨c, d⟩; simp_all; done) | grind)
     · -- guard no
      refine vn ?_
      refine vn ?_
      refine vn ?_
      refine vy a_pick ?_
      refine vy a_move ?_
      refine vn ?_
      refine vn ?_
      refine vn ?_
      refine vy a_pick ?_
      refine vy a_move ?_
      refine vn ?_
      refine vn ?_
      refine vn ?_
      refine vy a_pick ?_
      refine vy a_assign ?_
      refine vl_nil ?_
      refine vc_ret ?_
      refine fin ?_
      simp only [fitsL, fits, C.asD, and_true]
      all_goals (refine scb ?_; unfold rightL; first | (simp_all; done) | (simp_all [emp]; done) | (rcases hcf : caseT x.forth x.name with ⟨a, b⟩; rcases hcb : caseT x.back x.other with ⟨c, d⟩; simp_all; done) | grind)
    · -- guard no
     refine vn ?_
     refine vn ?_
     refine vn ?_
     refine vy a_pick ?_
     refine vy a_move ?_
     refine vn ?_
     refine vn ?_
     refine vn ?_
     refine vy a_pick ?_
     refine vy a_move ?_
     refine vn ?_
     refine vn ?_
     refine vn ?_
     refine vy a_pick ?_
     refine vy a_move ?_
     refine vn ?_
     refine vn ?_
     refine vn ?_
     refine vy a_pick ?_
     refine vy a_assign ?_
     refine vl_nil ?_
     refine vc_ret ?_
     refine fin ?_
     simp only [fitsL, fits, C.asD, and_true]
     all_goals (refine scb ?_; unfold rightL; first | (simp_all; done) | (simp_all [emp]; done) | (rcases hcf : caseT x.forth x.name with ⟨a, b⟩; rcases hcb : caseT x.back x.other with ⟨c, d⟩; simp_all; done) | grind)
   · -- guard no
    refine vn ?_
    refine vn ?_
    refine vn ?_
    refine vy a_pick ?_
    refine vy a_move ?_
    refine vn ?_
    refine vn ?_
    refine vn ?_
    refine vy a_pick ?_
    refine vy a_move ?_
    refine vn ?_
    refine vn ?_
    refine vn ?_
    refine vy a_pick ?_
    refine vy a_move ?_
    refine vn ?_
    refine vn ?_
    refine vn ?_
    refine vy a_pick ?_
    refine vy a_move ?_
    refine vn ?_
    refine vn ?_
    refine vn ?_
    refine vy a_pick ?_
    refine vy a_assign ?_
    refine vl_nil ?_
    refine vc_ret ?_
    refine fin ?_
    simp only [fitsL, fits, C.asD, and_true]
    all_goals (refine scb ?_; unfold rightL; first | (simp_all; done) | (simp_all [emp]; done) | (rcases hcf : caseT x.forth x.name with ⟨a, b⟩; rcases hcb : caseT x.back x.other with ⟨c, d⟩; simp_all; done) | grind)
  · -- no
   first | (exfalso; have hdead := hc2; simp at hdead <;> omega) | (exfalso; simp_all; done)
 · -- guard no
  have hnkind_2 : ¬ x.kind = 2 := by simpa using hg1
  first | refine vy (a_fr (hf := T.fo_30_0)) ?_ | refine vy (a_fa (hf := T.fo_30_0)) ?_
  first | refine vy (k_ldr T.ts_3) ?_ | refine vy (k_lda T.ts_3) ?_
  refine vy (a_bin (hr := by first | exact pr_eql | exact pr_eqs | exact pr_eqb Try.underlying3)) ?_
  refine vy a_pick ?_
  refine vl_nil ?_
  refine vif (fun hc8 => ?_) (fun hc8 => ?_)
  · -- yes
   have hkkind_3 : x.kind = 3 := by simpa using hc8
   refine vc_then ?_
   refine vc_region ?_
   first | refine vy (a_fr (hf := T.fo_30_1)) ?_ | refine vy (a_fa (hf := T.fo_30_1)) ?_
   first | refine vy (k_ldr T.ts_24) ?_ | refine vy (k_lda T.ts_24) ?_
   refine vy (a_build (hb := by first | exact rfl | rfl) (hr := by first | exact (show _ = rD noRef from rfl) | rfl)) ?_
   refine vy eq_24 ?_
   refine vy a_move ?_
   refine vb 19 (fun hg9 => ?_) (fun hg9 => ?_)
   · -- guard yes
    first | refine vy (a_fr (hf := T.fo_30_2)) ?_ | refine vy (a_fa (hf := T.fo_30_2)) ?_
    first | refine vy (k_ldr T.ts_9) ?_ | refine vy (k_lda T.ts_9) ?_
    refine vy (a_bin (hr := by first | exact pr_eql | exact pr_eqs | exact pr_eqb Try.underlying9)) ?_
    refine vy a_pick ?_
    refine vy a_move ?_
    refine vb 24 (fun hg10 => ?_) (fun hg10 => ?_)
    · -- guard yes
     first | refine vy (a_fr (hf := T.fo_30_3)) ?_ | refine vy (a_fa (hf := T.fo_30_3)) ?_
     first | refine vy (k_ldr T.ts_9) ?_ | refine vy (k_lda T.ts_9) ?_
     refine vy (a_bin (hr := by first | exact pr_eql | exact pr_eqs | exact pr_eqb Try.underlying9)) ?_
     refine vy a_pick ?_
     refine vy a_move ?_
     refine vb 29 (fun hg11 => ?_) (fun hg11 => ?_)
     · -- guard yes
      first | refine vy (a_fr (hf := T.fo_30_4)) ?_ | refine vy (a_fa (hf := T.fo_30_4)) ?_
      first | refine vy (k_ldr T.ts_2) ?_ | refine vy (k_lda T.ts_2) ?_
      refine vy (a_bin (hr := by first | exact pr_eql | exact pr_eqs | exact pr_eqb Try.underlying2)) ?_
      refine vy a_pick ?_
      refine vy a_move ?_
      refine vb 34 (fun hg12 => ?_) (fun hg12 => ?_)
      · -- guard yes
       first | refine vy (k_ldr T.ts_30) ?_ | refine vy (k_lda T.ts_30) ?_
       refine vy (a_call (hf := T.en_82) (hc := by exact tables_any _)) ?_
       refine vy a_not ?_
       refine vy a_pick ?_
       refine vy a_move ?_
       refine vb 39 (fun hg13 => ?_) (fun hg13 => ?_)
       · -- guard yes
        first | refine vy (a_fr (hf := T.fo_30_5)) ?_ | refine vy (a_fa (hf := T.fo_30_5)) ?_
        first | refine vy (k_ldr T.ts_27) ?_ | refine vy (k_lda T.ts_27) ?_
        refine vy (a_call (hf := T.en_77) (hc := by exact refFieldRight_any _ (by first | assumption | exact hx0.1))) ?_
        refine vy a_pick ?_
        refine vy a_assign ?_
        refine vl_nil ?_
        refine vc_ret ?_
        refine fin ?_
        simp only [fitsL, fits, C.asD, and_true]
        all_goals (refine scb ?_; unfold rightL; first | (simp_all; done) | (simp_all [emp]; done) | (rcases hcf : caseT x.forth x.name with ⟨a, b⟩; rcases hcb : caseT x.back x.other with ⟨c, d⟩; simp_all; done) | grind)
       · -- guard no
        refine vn ?_
        refine vn ?_
        refine vn ?_
        refine vy a_pick ?_
        refine vy a_assign ?_
        refine vl_nil ?_
        refine vc_ret ?_
        refine fin ?_
        simp only [fitsL, fits, C.asD, and_true]
        all_goals (refine scb ?_; unfold rightL; first | (simp_all; done) | (simp_all [emp]; done) | (rcases hcf : caseT x.forth x.name with ⟨a, b⟩; rcases hcb : caseT x.back x.other with ⟨c, d⟩; simp_all; done) | grind)
      · -- guard no
       refine vn ?_
       refine vn ?_
       refine vn ?_
       refine vy a_pick ?_
       refine vy a_move ?_
       refine vn ?_
       refine vn ?_
       refine vn ?_
       refine vy a_pick ?_
       refine vy a_assign ?_
       refine vl_nil ?_
       refine vc_ret ?_
       refine fin ?_
       simp only [fitsL, fits, C.asD, and_true]
       all_goals (refine scb ?_; unfold rightL; first | (simp_all; done) | (simp_all [emp]; done) | (rcases hcf : caseT x.forth x.name with ⟨a, b⟩; rcases hcb : caseT x.back x.other with ⟨c, d⟩; simp_all; done) | grind)
     · -- guard no
      refine vn ?_
      refine vn ?_
      refine vn ?_
      refine vy a_pick ?_
      refine vy a_move ?_
      refine vn ?_
      refine vn ?_
      refine vn ?_
      refine vy a_pick ?_
      refine vy a_move ?_
      refine vn ?_
      refine vn ?_
      refine vn ?_
      refine vy a_pick ?_
      refine vy a_assign ?_
      refine vl_nil ?_
      refine vc_ret ?_
      refine fin ?_
      simp only [fitsL, fits, C.asD, and_true]
      all_goals (refine scb ?_; unfold rightL; first | (simp_all; done) | (simp_all [emp]; done) | (rcases hcf : caseT x.forth x.name with ⟨a, b⟩; rcases hcb : caseT x.back x.other with ⟨c, d⟩; simp_all; done) | grind)
    · -- guard no
     refine vn ?_
     refine vn ?_
     refine vn ?_
     refine vy a_pick ?_
     refine vy a_move ?_
     refine vn ?_
     refine vn ?_
     refine vn ?_
     refine vy a_pick ?_
     refine vy a_move ?_
     refine vn ?_
     refine vn ?_
     refine vn ?_
     refine vy a_pick ?_
     refine vy a_move ?_
     refine vn ?_
     refine vn ?_
     refine vn ?_
     refine vy a_pick ?_
     refine vy a_assign ?_
     refine vl_nil ?_
     refine vc_ret ?_
     refine fin ?_
     simp only [fitsL, fits, C.asD, and_true]
     all_goals (refine scb ?_; unfold rightL; first | (simp_all; done) | (simp_all [emp]; done) | (rcases hcf : caseT x.forth x.name with ⟨a, b⟩; rcases hcb : caseT x.back x.other with ⟨c, d⟩; simp_all; done) | grind)
   · -- guard no
    refine vn ?_
    refine vn ?_
    refine vn ?_
    refine vy a_pick ?_
    refine vy a_move ?_
    refine vn ?_
    refine vn ?_
    refine vn ?_
    refine vy a_pick ?_
    refine vy a_move ?_
    refine vn ?_
    refine vn ?_
    refine vn ?_
    refine vy a_pick ?_
    refine vy a_move ?_
    refine vn ?_
    refine vn ?_
    refine vn ?_
    refine vy a_pick ?_
    refine vy a_move ?_
    refine vn ?_
    refine vn ?_
    refine vn ?_
    refine vy a_pick ?_
    refine vy a_assign ?_
    refine vl_nil ?_
    refine vc_ret ?_
    refine fin ?_
    simp only [fitsL, fits, C.asD, and_true]
    all_goals (refine scb ?_; unfold rightL; first | (simp_all; done) | (simp_all [emp]; done) | (rcases hcf : caseT x.forth x.name with ⟨a, b⟩; rcases hcb : caseT x.back x.other with ⟨c, d⟩; simp_all; done) | grind)
  · -- no
   have hnkind_3 : ¬ x.kind = 3 := by simpa using hc8
   refine vc_skip ?_
   refine vc_then ?_
   refine vc_then ?_
   refine vc_region ?_
   first | refine vy (a_fr (hf := T.fo_30_1)) ?_ | refine vy (a_fa (hf := T.fo_30_1)) ?_
   first | refine vy (k_ldr T.ts_24) ?_ | refine vy (k_lda T.ts_24) ?_
   refine vy (a_call (hf := T.en_83) (hc := by exact refPlace_any _)) ?_
   refine vy a_not ?_
   refine vy a_move ?_
   refine vb 48 (fun hg14 => ?_) (fun hg14 => ?_)
   · -- guard yes
    refine vn ?_
    refine vn ?_
    refine vn ?_
    refine vy a_pick ?_
    refine vl_nil ?_
    refine vif (fun hc15 => ?_) (fun hc15 => ?_)
    · -- yes
     refine vc_then ?_
     refine vc_region ?_
     refine vy a_assign ?_
     refine vl_nil ?_
     refine vc_ret ?_
     refine fin ?_
     simp only [fitsL, fits, C.asD, and_true]
     all_goals (refine scb ?_; unfold rightL; first | (simp_all; done) | (simp_all [emp]; done) | (rcases hcf : caseT x.forth x.name with ⟨a, b⟩; rcases hcb : caseT x.back x.other with ⟨c, d⟩; simp_all; done) | grind)
    · -- no
     first | (exfalso; have hdead := hc15; simp at hdead <;> omega) | (exfalso; simp_all; done)
   · -- guard no
    first | refine vy (k_ldr T.ts_30) ?_ | refine vy (k_lda T.ts_30) ?_
    refine vy (a_call (hf := T.en_84) (hc := by exact none_any _ hx0)) ?_
    refine vy a_not ?_
    refine vy a_pick ?_
    refine vl_nil ?_
    refine vif (fun hc16 => ?_) (fun hc16 => ?_)
    · -- yes
     refine vc_then ?_
     refine vc_region ?_
     refine vy a_assign ?_
     refine vl_nil ?_
     refine vc_ret ?_
     refine fin ?_
     simp only [fitsL, fits, C.asD, and_true]
     all_goals (refine scb ?_; unfold rightL; first | (simp_all; done) | (simp_all [emp]; done) | (rcases hcf : caseT x.forth x.name with ⟨a, b⟩; rcases hcb : caseT x.back x.other with ⟨c, d⟩; simp_all; done) | grind)
    · -- no
     refine vc_skip ?_
     refine vc_then ?_
     refine vc_then ?_
     refine vc_region ?_
     first | refine vy (a_fr (hf := T.fo_30_0)) ?_ | refine vy (a_fa (hf := T.fo_30_0)) ?_
     first | refine vy (k_ldr T.ts_3) ?_ | refine vy (k_lda T.ts_3) ?_
     refine vy (a_bin (hr := by first | exact pr_eql | exact pr_eqs | exact pr_eqb Try.underlying3)) ?_
     refine vl_nil ?_
     refine vif (fun hc17 => ?_) (fun hc17 => ?_)
     · -- yes
      have hkkind_8 : x.kind = 8 := by simpa using hc17
      refine vc_then ?_
      refine vc_region ?_
      first | refine vy (a_fr (hf := T.fo_30_6)) ?_ | refine vy (a_fa (hf := T.fo_30_6)) ?_
      first | refine vy (k_ldr T.ts_28) ?_ | refine vy (k_lda T.ts_28) ?_
      first | refine vy (a_fr (hf := T.fo_30_2)) ?_ | refine vy (a_fa (hf := T.fo_30_2)) ?_
      first | refine vy (k_ldr T.ts_9) ?_ | refine vy (k_lda T.ts_9) ?_
      refine vy (a_call (hf := T.en_27) (hc := by exact refCase_any _ _ (by first | assumption | exact hx0.2.1 | exact hx0.2.2))) ?_
      refine vy a_move ?_
      refine vy a_ext ?_
      refine vy a_ext ?_
      refine vy a_assign ?_
      refine vy a_assign ?_
      refine vl_nil ?_
      refine vc_then ?_
      refine vc_region ?_
      first | refine vy (a_fr (hf := T.fo_30_7)) ?_ | refine vy (a_fa (hf := T.fo_30_7)) ?_
      first | refine vy (k_ldr T.ts_28) ?_ | refine vy (k_lda T.ts_28) ?_
      first | refine vy (a_fr (hf := T.fo_30_3)) ?_ | refine vy (a_fa (hf := T.fo_30_3)) ?_
      first | refine vy (k_ldr T.ts_9) ?_ | refine vy (k_lda T.ts_9) ?_
      refine vy (a_call (hf := T.en_27) (hc := by exact refCase_any _ _ (by first | assumption | exact hx0.2.1 | exact hx0.2.2))) ?_
      refine vy a_move ?_
      refine vy a_ext ?_
      refine vy a_ext ?_
      refine vy a_assign ?_
      refine vy a_assign ?_
      refine vl_nil ?_
      refine vc_then ?_
      refine vc_region ?_
      first | refine vy (a_fr (hf := T.fo_30_4)) ?_ | refine vy (a_fa (hf := T.fo_30_4)) ?_
      first | refine vy (k_ldr T.ts_2) ?_ | refine vy (k_lda T.ts_2) ?_
      refine vy (a_bin (hr := by first | exact pr_eql | exact pr_eqs | exact pr_eqb Try.underlying2)) ?_
      refine vy a_move ?_
      refine vb 75 (fun hg18 => ?_) (fun hg18 => ?_)
      · -- guard yes
       first | refine vy (a_fr (hf := T.fo_30_6)) ?_ | refine vy (a_fa (hf := T.fo_30_6)) ?_
       first | refine vy (k_ldr T.ts_28) ?_ | refine vy (k_lda T.ts_28) ?_
       first | refine vy (a_fr (hf := T.fo_30_7)) ?_ | refine vy (a_fa (hf := T.fo_30_7)) ?_
       first | refine vy (k_ldr T.ts_28) ?_ | refine vy (k_lda T.ts_28) ?_
       refine vy (a_call (hf := T.en_85) (hc := by exact refTable_any _ _ (by first | exact hx0.2.1 | exact hx0.2.2) (by first | exact hx0.2.1 | exact hx0.2.2))) ?_
       refine vy a_pick ?_
       refine vy a_move ?_
       refine vb 82 (fun hg19 => ?_) (fun hg19 => ?_)
       · -- guard yes
        first | refine vy (a_fr (hf := T.fo_30_7)) ?_ | refine vy (a_fa (hf := T.fo_30_7)) ?_
        first | refine vy (k_ldr T.ts_28) ?_ | refine vy (k_lda T.ts_28) ?_
        first | refine vy (a_fr (hf := T.fo_30_6)) ?_ | refine vy (a_fa (hf := T.fo_30_6)) ?_
        first | refine vy (k_ldr T.ts_28) ?_ | refine vy (k_lda T.ts_28) ?_
        refine vy (a_call (hf := T.en_85) (hc := by exact refTable_any _ _ (by first | exact hx0.2.1 | exact hx0.2.2) (by first | exact hx0.2.1 | exact hx0.2.2))) ?_
        refine vy a_pick ?_
        refine vy a_move ?_
        refine vb 89 (fun hg20 => ?_) (fun hg20 => ?_)
        · -- guard yes
         refine vy a_move ?_
         refine vy a_pick ?_
         refine vy a_move ?_
         refine vb 92 (fun hg21 => ?_) (fun hg21 => ?_)
         · -- guard yes
          refine vy a_move ?_
          refine vy a_pick ?_
          refine vy a_move ?_
          refine vb 95 (fun hg22 => ?_) (fun hg22 => ?_)
          · -- guard yes
           refine vy a_move ?_
           first | refine vy (a_fr (hf := T.fo_30_3)) ?_ | refine vy (a_fa (hf := T.fo_30_3)) ?_
           first | refine vy (k_ldr T.ts_9) ?_ | refine vy (k_lda T.ts_9) ?_
           refine vy (a_bin (hr := by first | exact pr_eql | exact pr_eqs | exact pr_eqb Try.underlying9)) ?_
           refine vy a_pick ?_
           refine vy a_move ?_
           refine vb 101 (fun hg23 => ?_) (fun hg23 => ?_)
           · -- guard yes
            refine vy a_move ?_
            first | refine vy (a_fr (hf := T.fo_30_2)) ?_ | refine vy (a_fa (hf := T.fo_30_2)) ?_
            first | refine vy (k_ldr T.ts_9) ?_ | refine vy (k_lda T.ts_9) ?_
            refine vy (a_bin (hr := by first | exact pr_eql | exact pr_eqs | exact pr_eqb Try.underlying9)) ?_
            refine vy a_pick ?_
            refine vy a_assign ?_
            refine vl_nil ?_
            refine vc_ret ?_
            refine fin ?_
            simp only [fitsL, fits, C.asD, and_true]
            all_goals (refine scb ?_; unfold rightL; first | (simp_all; done) | (simp_all [emp]; done) | (rcases hcf : caseT x.forth x.name with ⟨a, b⟩; rcases hcb : caseT x.back x.other with ⟨c, d⟩; simp_all; done) | grind)
           · -- guard no
            refine vn ?_
            refine vn ?_
            refine vn ?_
            refine vn ?_
            refine vy a_pick ?_
            refine vy a_assign ?_
            refine vl_nil ?_
            refine vc_ret ?_
            refine fin ?_
            simp only [fitsL, fits, C.asD, and_true]
            all_goals (refine scb ?_; unfold rightL; first | (simp_all; done) | (simp_all [emp]; done) | (rcases hcf : caseT x.forth x.name with ⟨a, b⟩; rcases hcb : caseT x.back x.other with ⟨c, d⟩; simp_all; done) | grind)
          · -- guard no
           refine vn ?_
           refine vn ?_
           refine vn ?_
           refine vn ?_
           refine vy a_pick ?_
           refine vy a_move ?_
           refine vn ?_
           refine vn ?_
           refine vn ?_
           refine vn ?_
           refine vy a_pick ?_
           refine vy a_assign ?_
           refine vl_nil ?_
           refine vc_ret ?_
           refine fin ?_
           simp only [fitsL, fits, C.asD, and_true]
           all_goals (refine scb ?_; unfold rightL; first | (simp_all; done) | (simp_all [emp]; done) | (rcases hcf : caseT x.forth x.name with ⟨a, b⟩; rcases hcb : caseT x.back x.other with ⟨c, d⟩; simp_all; done) | grind)
         · -- guard no
          refine vn ?_
          refine vy a_pick ?_
          refine vy a_move ?_
          refine vn ?_
          refine vn ?_
          refine vn ?_
          refine vn ?_
          refine vy a_pick ?_
          refine vy a_move ?_
          refine vn ?_
          refine vn ?_
          refine vn ?_
          refine vn ?_
          refine vy a_pick ?_
          refine vy a_assign ?_
          refine vl_nil ?_
          refine vc_ret ?_
          refine fin ?_
          simp only [fitsL, fits, C.asD, and_true]
          all_goals (refine scb ?_; unfold rightL; first | (simp_all; done) | (simp_all [emp]; done) | (rcases hcf : caseT x.forth x.name with ⟨a, b⟩; rcases hcb : caseT x.back x.other with ⟨c, d⟩; simp_all; done) | grind)
        · -- guard no
         refine vn ?_
         refine vy a_pick ?_
         refine vy a_move ?_
         refine vn ?_
         refine vy a_pick ?_
         refine vy a_move ?_
         refine vn ?_
         refine vn ?_
         refine vn ?_
         refine vn ?_
         refine vy a_pick ?_
         refine vy a_move ?_
         refine vn ?_
         refine vn ?_
         refine vn ?_
         refine vn ?_
         refine vy a_pick ?_
         refine vy a_assign ?_
         refine vl_nil ?_
         refine vc_ret ?_
         refine fin ?_
         simp only [fitsL, fits, C.asD, and_true]
         all_goals (refine scb ?_; unfold rightL; first | (simp_all; done) | (simp_all [emp]; done) | (rcases hcf : caseT x.forth x.name with ⟨a, b⟩; rcases hcb : caseT x.back x.other with ⟨c, d⟩; simp_all; done) | grind)
       · -- guard no
        refine vn ?_
        refine vn ?_
        refine vn ?_
        refine vn ?_
        refine vn ?_
        refine vy a_pick ?_
        refine vy a_move ?_
        refine vn ?_
        refine vy a_pick ?_
        refine vy a_move ?_
        refine vn ?_
        refine vy a_pick ?_
        refine vy a_move ?_
        refine vn ?_
        refine vn ?_
        refine vn ?_
        refine vn ?_
        refine vy a_pick ?_
        refine vy a_move ?_
        refine vn ?_
        refine vn ?_
        refine vn ?_
        refine vn ?_
        refine vy a_pick ?_
        refine vy a_assign ?_
        refine vl_nil ?_
        refine vc_ret ?_
        refine fin ?_
        simp only [fitsL, fits, C.asD, and_true]
        all_goals (refine scb ?_; unfold rightL; first | (simp_all; done) | (simp_all [emp]; done) | (rcases hcf : caseT x.forth x.name with ⟨a, b⟩; rcases hcb : caseT x.back x.other with ⟨c, d⟩; simp_all; done) | grind)
      · -- guard no
       refine vn ?_
       refine vn ?_
       refine vn ?_
       refine vn ?_
       refine vn ?_
       refine vy a_pick ?_
       refine vy a_move ?_
       refine vn ?_
       refine vn ?_
       refine vn ?_
       refine vn ?_
       refine vn ?_
       refine vy a_pick ?_
       refine vy a_move ?_
       refine vn ?_
       refine vy a_pick ?_
       refine vy a_move ?_
       refine vn ?_
       refine vy a_pick ?_
       refine vy a_move ?_
       refine vn ?_
       refine vn ?_
       refine vn ?_
       refine vn ?_
       refine vy a_pick ?_
       refine vy a_move ?_
       refine vn ?_
       refine vn ?_
       refine vn ?_
       refine vn ?_
       refine vy a_pick ?_
       refine vy a_assign ?_
       refine vl_nil ?_
       refine vc_ret ?_
       refine fin ?_
       simp only [fitsL, fits, C.asD, and_true]
       all_goals (refine scb ?_; unfold rightL; first | (simp_all; done) | (simp_all [emp]; done) | (rcases hcf : caseT x.forth x.name with ⟨a, b⟩; rcases hcb : caseT x.back x.other with ⟨c, d⟩; simp_all; done) | grind)
     · -- no
      have hnkind_8 : ¬ x.kind = 8 := by simpa using hc17
      refine vc_skip ?_
      refine vc_then ?_
      refine vc_then ?_
      refine vc_region ?_
      first | refine vy (k_ldr T.ts_30) ?_ | refine vy (k_lda T.ts_30) ?_
      refine vy (a_call (hf := T.en_82) (hc := by exact tables_any _)) ?_
      refine vl_nil ?_
      refine vif (fun hc24 => ?_) (fun hc24 => ?_)
      · -- yes
       refine vc_then ?_
       refine vc_region ?_
       refine vy a_assign ?_
       refine vl_nil ?_
       refine vc_ret ?_
       refine fin ?_
       simp only [fitsL, fits, C.asD, and_true]
       all_goals (refine scb ?_; unfold rightL; first | (simp_all; done) | (simp_all [emp]; done) | (rcases hcf : caseT x.forth x.name with ⟨a, b⟩; rcases hcb : caseT x.back x.other with ⟨c, d⟩; simp_all; done) | grind)
      · -- no
       refine vc_skip ?_
       refine vc_then ?_
       refine vc_then ?_
       refine vc_region ?_
       first | refine vy (a_fr (hf := T.fo_30_0)) ?_ | refine vy (a_fa (hf := T.fo_30_0)) ?_
       first | refine vy (k_ldr T.ts_3) ?_ | refine vy (k_lda T.ts_3) ?_
       refine vy (a_bin (hr := by first | exact pr_eql | exact pr_eqs | exact pr_eqb Try.underlying3)) ?_
       refine vy a_move ?_
       refine vb 112 (fun hg25 => ?_) (fun hg25 => ?_)
       · -- guard yes
        have hkkind_6 : x.kind = 6 := by simpa using hg25
        refine vn ?_
        refine vn ?_
        refine vn ?_
        refine vy a_pick ?_
        refine vl_nil ?_
        refine vif (fun hc26 => ?_) (fun hc26 => ?_)
        · -- yes
         refine vc_then ?_
         refine vc_region ?_
         first | refine vy (a_fr (hf := T.fo_30_2)) ?_ | refine vy (a_fa (hf := T.fo_30_2)) ?_
         first | refine vy (k_ldr T.ts_9) ?_ | refine vy (k_lda T.ts_9) ?_
         refine vy (a_call (hf := T.en_86) (hc := by exact refName_any _)) ?_
         refine vy a_move ?_
         refine vb 120 (fun hg27 => ?_) (fun hg27 => ?_)
         · -- guard yes
          first | refine vy (a_fr (hf := T.fo_30_3)) ?_ | refine vy (a_fa (hf := T.fo_30_3)) ?_
          first | refine vy (k_ldr T.ts_9) ?_ | refine vy (k_lda T.ts_9) ?_
          refine vy (a_call (hf := T.en_86) (hc := by exact refName_any _)) ?_
          refine vy a_pick ?_
          refine vy a_move ?_
          refine vb 125 (fun hg28 => ?_) (fun hg28 => ?_)
          · -- guard yes
           first | refine vy (a_fr (hf := T.fo_30_2)) ?_ | refine vy (a_fa (hf := T.fo_30_2)) ?_
           first | refine vy (k_ldr T.ts_9) ?_ | refine vy (k_lda T.ts_9) ?_
           first | refine vy (a_fr (hf := T.fo_30_3)) ?_ | refine vy (a_fa (hf := T.fo_30_3)) ?_
           first | refine vy (k_ldr T.ts_9) ?_ | refine vy (k_lda T.ts_9) ?_
           refine vy (a_bin (hr := by first | exact pr_neq | exact pr_nes | exact pr_neb Try.underlying9)) ?_
           refine vy a_pick ?_
           refine vy a_move ?_
           refine vb 132 (fun hg29 => ?_) (fun hg29 => ?_)
           · -- guard yes
            first | refine vy (a_fr (hf := T.fo_30_4)) ?_ | refine vy (a_fa (hf := T.fo_30_4)) ?_
            first | refine vy (k_ldr T.ts_2) ?_ | refine vy (k_lda T.ts_2) ?_
            refine vy (a_bin (hr := by first | exact pr_gtr)) ?_
            refine vy a_pick ?_
            refine vy a_move ?_
            refine vb 137 (fun hg30 => ?_) (fun hg30 => ?_)
            · -- guard yes
             first | refine vy (a_fr (hf := T.fo_30_4)) ?_ | refine vy (a_fa (hf := T.fo_30_4)) ?_
             first | refine vy (k_ldr T.ts_2) ?_ | refine vy (k_lda T.ts_2) ?_
             refine vy (a_bin (hr := by first | exact pr_lss | exact pr_lts)) ?_
             refine vy a_pick ?_
             refine vy a_assign ?_
             refine vl_nil ?_
             refine vc_ret ?_
             refine fin ?_
             simp only [fitsL, fits, C.asD, and_true]
             all_goals (refine scb ?_; unfold rightL; first | (simp_all; done) | (simp_all [emp]; done) | (rcases hcf : caseT x.forth x.name with ⟨a, b⟩; rcases hcb : caseT x.back x.other with ⟨c, d⟩; simp_all; done) | grind)
            · -- guard no
             refine vn ?_
             refine vn ?_
             refine vn ?_
             refine vy a_pick ?_
             refine vy a_assign ?_
             refine vl_nil ?_
             refine vc_ret ?_
             refine fin ?_
             simp only [fitsL, fits, C.asD, and_true]
             all_goals (refine scb ?_; unfold rightL; first | (simp_all; done) | (simp_all [emp]; done) | (rcases hcf : caseT x.forth x.name with ⟨a, b⟩; rcases hcb : caseT x.back x.other with ⟨c, d⟩; simp_all; done) | grind)
           · -- guard no
            refine vn ?_
            refine vn ?_
            refine vn ?_
            refine vy a_pick ?_
            refine vy a_move ?_
            refine vn ?_
            refine vn ?_
            refine vn ?_
            refine vy a_pick ?_
            refine vy a_assign ?_
            refine vl_nil ?_
            refine vc_ret ?_
            refine fin ?_
            simp only [fitsL, fits, C.asD, and_true]
            all_goals (refine scb ?_; unfold rightL; first | (simp_all; done) | (simp_all [emp]; done) | (rcases hcf : caseT x.forth x.name with ⟨a, b⟩; rcases hcb : caseT x.back x.other with ⟨c, d⟩; simp_all; done) | grind)
          · -- guard no
           refine vn ?_
           refine vn ?_
           refine vn ?_
           refine vn ?_
           refine vn ?_
           refine vy a_pick ?_
           refine vy a_move ?_
           refine vn ?_
           refine vn ?_
           refine vn ?_
           refine vy a_pick ?_
           refine vy a_move ?_
           refine vn ?_
           refine vn ?_
           refine vn ?_
           refine vy a_pick ?_
           refine vy a_assign ?_
           refine vl_nil ?_
           refine vc_ret ?_
           refine fin ?_
           simp only [fitsL, fits, C.asD, and_true]
           all_goals (refine scb ?_; unfold rightL; first | (simp_all; done) | (simp_all [emp]; done) | (rcases hcf : caseT x.forth x.name with ⟨a, b⟩; rcases hcb : caseT x.back x.other with ⟨c, d⟩; simp_all; done) | grind)
         · -- guard no
          refine vn ?_
          refine vn ?_
          refine vn ?_
          refine vy a_pick ?_
          refine vy a_move ?_
          refine vn ?_
          refine vn ?_
          refine vn ?_
          refine vn ?_
          refine vn ?_
          refine vy a_pick ?_
          refine vy a_move ?_
          refine vn ?_
          refine vn ?_
          refine vn ?_
          refine vy a_pick ?_
          refine vy a_move ?_
          refine vn ?_
          refine vn ?_
          refine vn ?_
          refine vy a_pick ?_
          refine vy a_assign ?_
          refine vl_nil ?_
          refine vc_ret ?_
          refine fin ?_
          simp only [fitsL, fits, C.asD, and_true]
          all_goals (refine scb ?_; unfold rightL; first | (simp_all; done) | (simp_all [emp]; done) | (rcases hcf : caseT x.forth x.name with ⟨a, b⟩; rcases hcb : caseT x.back x.other with ⟨c, d⟩; simp_all; done) | grind)
        · -- no
         first | (exfalso; have hdead := hc26; simp at hdead <;> omega) | (exfalso; simp_all; done)
       · -- guard no
        have hnkind_6 : ¬ x.kind = 6 := by simpa using hg25
        first | refine vy (a_fr (hf := T.fo_30_0)) ?_ | refine vy (a_fa (hf := T.fo_30_0)) ?_
        first | refine vy (k_ldr T.ts_3) ?_ | refine vy (k_lda T.ts_3) ?_
        refine vy (a_bin (hr := by first | exact pr_eql | exact pr_eqs | exact pr_eqb Try.underlying3)) ?_
        refine vy a_pick ?_
        refine vl_nil ?_
        refine vif (fun hc31 => ?_) (fun hc31 => ?_)
        · -- yes
         have hkkind_9 : x.kind = 9 := by simpa using hc31
         refine vc_then ?_
         refine vc_region ?_
         first | refine vy (a_fr (hf := T.fo_30_2)) ?_ | refine vy (a_fa (hf := T.fo_30_2)) ?_
         first | refine vy (k_ldr T.ts_9) ?_ | refine vy (k_lda T.ts_9) ?_
         refine vy (a_call (hf := T.en_86) (hc := by exact refName_any _)) ?_
         refine vy a_move ?_
         refine vb 120 (fun hg32 => ?_) (fun hg32 => ?_)
         · -- guard yes
          first | refine vy (a_fr (hf := T.fo_30_3)) ?_ | refine vy (a_fa (hf := T.fo_30_3)) ?_
          first | refine vy (k_ldr T.ts_9) ?_ | refine vy (k_lda T.ts_9) ?_
          refine vy (a_call (hf := T.en_86) (hc := by exact refName_any _)) ?_
          refine vy a_pick ?_
          refine vy a_move ?_
          refine vb 125 (fun hg33 => ?_) (fun hg33 => ?_)
          · -- guard yes
           first | refine vy (a_fr (hf := T.fo_30_2)) ?_ | refine vy (a_fa (hf := T.fo_30_2)) ?_
           first | refine vy (k_ldr T.ts_9) ?_ | refine vy (k_lda T.ts_9) ?_
           first | refine vy (a_fr (hf := T.fo_30_3)) ?_ | refine vy (a_fa (hf := T.fo_30_3)) ?_
           first | refine vy (k_ldr T.ts_9) ?_ | refine vy (k_lda T.ts_9) ?_
           refine vy (a_bin (hr := by first | exact pr_neq | exact pr_nes | exact pr_neb Try.underlying9)) ?_
           refine vy a_pick ?_
           refine vy a_move ?_
           refine vb 132 (fun hg34 => ?_) (fun hg34 => ?_)
           · -- guard yes
            first | refine vy (a_fr (hf := T.fo_30_4)) ?_ | refine vy (a_fa (hf := T.fo_30_4)) ?_
            first | refine vy (k_ldr T.ts_2) ?_ | refine vy (k_lda T.ts_2) ?_
            refine vy (a_bin (hr := by first | exact pr_gtr)) ?_
            refine vy a_pick ?_
            refine vy a_move ?_
            refine vb 137 (fun hg35 => ?_) (fun hg35 => ?_)
            · -- guard yes
             first | refine vy (a_fr (hf := T.fo_30_4)) ?_ | refine vy (a_fa (hf := T.fo_30_4)) ?_
             first | refine vy (k_ldr T.ts_2) ?_ | refine vy (k_lda T.ts_2) ?_
             refine vy (a_bin (hr := by first | exact pr_lss | exact pr_lts)) ?_
             refine vy a_pick ?_
             refine vy a_assign ?_
             refine vl_nil ?_
             refine vc_ret ?_
             refine fin ?_
             simp only [fitsL, fits, C.asD, and_true]
             all_goals (refine scb ?_; unfold rightL; first | (simp_all; done) | (simp_all [emp]; done) | (rcases hcf : caseT x.forth x.name with ⟨a, b⟩; rcases hcb : caseT x.back x.other with ⟨c, d⟩; simp_all; done) | grind)
            · -- guard no
             refine vn ?_
             refine vn ?_
             refine vn ?_
             refine vy a_pick ?_
             refine vy a_assign ?_
             refine vl_nil ?_
             refine vc_ret ?_
             refine fin ?_
             simp only [fitsL, fits, C.asD, and_true]
             all_goals (refine scb ?_; unfold rightL; first | (simp_all; done) | (simp_all [emp]; done) | (rcases hcf : caseT x.forth x.name with ⟨a, b⟩; rcases hcb : caseT x.back x.other with ⟨c, d⟩; simp_all; done) | grind)
           · -- guard no
            refine vn ?_
            refine vn ?_
            refine vn ?_
            refine vy a_pick ?_
            refine vy a_move ?_
            refine vn ?_
            refine vn ?_
            refine vn ?_
            refine vy a_pick ?_
            refine vy a_assign ?_
            refine vl_nil ?_
            refine vc_ret ?_
            refine fin ?_
            simp only [fitsL, fits, C.asD, and_true]
            all_goals (refine scb ?_; unfold rightL; first | (simp_all; done) | (simp_all [emp]; done) | (rcases hcf : caseT x.forth x.name with ⟨a, b⟩; rcases hcb : caseT x.back x.other with ⟨c, d⟩; simp_all; done) | grind)
          · -- guard no
           refine vn ?_
           refine vn ?_
           refine vn ?_
           refine vn ?_
           refine vn ?_
           refine vy a_pick ?_
           refine vy a_move ?_
           refine vn ?_
           refine vn ?_
           refine vn ?_
           refine vy a_pick ?_
           refine vy a_move ?_
           refine vn ?_
           refine vn ?_
           refine vn ?_
           refine vy a_pick ?_
           refine vy a_assign ?_
           refine vl_nil ?_
           refine vc_ret ?_
           refine fin ?_
           simp only [fitsL, fits, C.asD, and_true]
           all_goals (refine scb ?_; unfold rightL; first | (simp_all; done) | (simp_all [emp]; done) | (rcases hcf : caseT x.forth x.name with ⟨a, b⟩; rcases hcb : caseT x.back x.other with ⟨c, d⟩; simp_all; done) | grind)
         · -- guard no
          refine vn ?_
          refine vn ?_
          refine vn ?_
          refine vy a_pick ?_
          refine vy a_move ?_
          refine vn ?_
          refine vn ?_
          refine vn ?_
          refine vn ?_
          refine vn ?_
          refine vy a_pick ?_
          refine vy a_move ?_
          refine vn ?_
          refine vn ?_
          refine vn ?_
          refine vy a_pick ?_
          refine vy a_move ?_
          refine vn ?_
          refine vn ?_
          refine vn ?_
          refine vy a_pick ?_
          refine vy a_assign ?_
          refine vl_nil ?_
          refine vc_ret ?_
          refine fin ?_
          simp only [fitsL, fits, C.asD, and_true]
          all_goals (refine scb ?_; unfold rightL; first | (simp_all; done) | (simp_all [emp]; done) | (rcases hcf : caseT x.forth x.name with ⟨a, b⟩; rcases hcb : caseT x.back x.other with ⟨c, d⟩; simp_all; done) | grind)
        · -- no
         have hnkind_9 : ¬ x.kind = 9 := by simpa using hc31
         refine vc_skip ?_
         refine vc_then ?_
         refine vc_then ?_
         refine vc_region ?_
         first | refine vy (a_fr (hf := T.fo_30_4)) ?_ | refine vy (a_fa (hf := T.fo_30_4)) ?_
         first | refine vy (k_ldr T.ts_2) ?_ | refine vy (k_lda T.ts_2) ?_
         refine vy (a_bin (hr := by first | exact pr_neq | exact pr_nes | exact pr_neb Try.underlying2)) ?_
         refine vl_nil ?_
         refine vif (fun hc36 => ?_) (fun hc36 => ?_)
         · -- yes
          refine vc_then ?_
          refine vc_region ?_
          refine vy a_assign ?_
          refine vl_nil ?_
          refine vc_ret ?_
          refine fin ?_
          simp only [fitsL, fits, C.asD, and_true]
          all_goals (refine scb ?_; unfold rightL; first | (simp_all; done) | (simp_all [emp]; done) | (rcases hcf : caseT x.forth x.name with ⟨a, b⟩; rcases hcb : caseT x.back x.other with ⟨c, d⟩; simp_all; done) | grind)
         · -- no
          refine vc_skip ?_
          refine vc_then ?_
          refine vc_then ?_
          refine vc_region ?_
          first | refine vy (a_fr (hf := T.fo_30_0)) ?_ | refine vy (a_fa (hf := T.fo_30_0)) ?_
          first | refine vy (k_ldr T.ts_3) ?_ | refine vy (k_lda T.ts_3) ?_
          refine vy (a_bin (hr := by first | exact pr_eql | exact pr_eqs | exact pr_eqb Try.underlying3)) ?_
          refine vy a_move ?_
          refine vb 148 (fun hg37 => ?_) (fun hg37 => ?_)
          · -- guard yes
           have hkkind_7 : x.kind = 7 := by simpa using hg37
           refine vn ?_
           refine vn ?_
           refine vn ?_
           refine vy a_pick ?_
           refine vl_nil ?_
           refine vif (fun hc38 => ?_) (fun hc38 => ?_)
           · -- yes
            refine vc_then ?_
            refine vc_region ?_
            first | refine vy (a_fr (hf := T.fo_30_2)) ?_ | refine vy (a_fa (hf := T.fo_30_2)) ?_
            first | refine vy (k_ldr T.ts_9) ?_ | refine vy (k_lda T.ts_9) ?_
            refine vy (a_bin (hr := by first | exact pr_eql | exact pr_eqs | exact pr_eqb Try.underlying9)) ?_
            refine vy a_move ?_
            refine vb 156 (fun hg39 => ?_) (fun hg39 => ?_)
            · -- guard yes
             first | refine vy (a_fr (hf := T.fo_30_3)) ?_ | refine vy (a_fa (hf := T.fo_30_3)) ?_
             first | refine vy (k_ldr T.ts_9) ?_ | refine vy (k_lda T.ts_9) ?_
             refine vy (a_lens (hT := T.us_9)) ?_
             refine vy (a_bin (hr := by first | exact pr_lss | exact pr_lts)) ?_
             refine vy a_pick ?_
             refine vy a_assign ?_
             refine vl_nil ?_
             refine vc_ret ?_
             refine fin ?_
             simp only [fitsL, fits, C.asD, and_true]
             all_goals (refine scb ?_; unfold rightL; first | (simp_all; done) | (simp_all [emp]; done) | (rcases hcf : caseT x.forth x.name with ⟨a, b⟩; rcases hcb : caseT x.back x.other with ⟨c, d⟩; simp_all; done) | grind)
            · -- guard no
             refine vn ?_
             refine vn ?_
             refine vn ?_
             refine vn ?_
             refine vy a_pick ?_
             refine vy a_assign ?_
             refine vl_nil ?_
             refine vc_ret ?_
             refine fin ?_
             simp only [fitsL, fits, C.asD, and_true]
             all_goals (refine scb ?_; unfold rightL; first | (simp_all; done) | (simp_all [emp]; done) | (rcases hcf : caseT x.forth x.name with ⟨a, b⟩; rcases hcb : caseT x.back x.other with ⟨c, d⟩; simp_all; done) | grind)
           · -- no
            first | (exfalso; have hdead := hc38; simp at hdead <;> omega) | (exfalso; simp_all; done)
          · -- guard no
           have hnkind_7 : ¬ x.kind = 7 := by simpa using hg37
           first | refine vy (a_fr (hf := T.fo_30_0)) ?_ | refine vy (a_fa (hf := T.fo_30_0)) ?_
           first | refine vy (k_ldr T.ts_3) ?_ | refine vy (k_lda T.ts_3) ?_
           refine vy (a_bin (hr := by first | exact pr_eql | exact pr_eqs | exact pr_eqb Try.underlying3)) ?_
           refine vy a_pick ?_
           refine vl_nil ?_
           refine vif (fun hc40 => ?_) (fun hc40 => ?_)
           · -- yes
            have hkkind_10 : x.kind = 10 := by simpa using hc40
            refine vc_then ?_
            refine vc_region ?_
            first | refine vy (a_fr (hf := T.fo_30_2)) ?_ | refine vy (a_fa (hf := T.fo_30_2)) ?_
            first | refine vy (k_ldr T.ts_9) ?_ | refine vy (k_lda T.ts_9) ?_
            refine vy (a_bin (hr := by first | exact pr_eql | exact pr_eqs | exact pr_eqb Try.underlying9)) ?_
            refine vy a_move ?_
            refine vb 156 (fun hg41 => ?_) (fun hg41 => ?_)
            · -- guard yes
             first | refine vy (a_fr (hf := T.fo_30_3)) ?_ | refine vy (a_fa (hf := T.fo_30_3)) ?_
             first | refine vy (k_ldr T.ts_9) ?_ | refine vy (k_lda T.ts_9) ?_
             refine vy (a_lens (hT := T.us_9)) ?_
             refine vy (a_bin (hr := by first | exact pr_lss | exact pr_lts)) ?_
             refine vy a_pick ?_
             refine vy a_assign ?_
             refine vl_nil ?_
             refine vc_ret ?_
             refine fin ?_
             simp only [fitsL, fits, C.asD, and_true]
             all_goals (refine scb ?_; unfold rightL; first | (simp_all; done) | (simp_all [emp]; done) | (rcases hcf : caseT x.forth x.name with ⟨a, b⟩; rcases hcb : caseT x.back x.other with ⟨c, d⟩; simp_all; done) | grind)
            · -- guard no
             refine vn ?_
             refine vn ?_
             refine vn ?_
             refine vn ?_
             refine vy a_pick ?_
             refine vy a_assign ?_
             refine vl_nil ?_
             refine vc_ret ?_
             refine fin ?_
             simp only [fitsL, fits, C.asD, and_true]
             all_goals (refine scb ?_; unfold rightL; first | (simp_all; done) | (simp_all [emp]; done) | (rcases hcf : caseT x.forth x.name with ⟨a, b⟩; rcases hcb : caseT x.back x.other with ⟨c, d⟩; simp_all; done) | grind)
           · -- no
            have hnkind_10 : ¬ x.kind = 10 := by simpa using hc40
            refine vc_skip ?_
            refine vc_then ?_
            refine vc_then ?_
            refine vc_region ?_
            first | refine vy (a_fr (hf := T.fo_30_3)) ?_ | refine vy (a_fa (hf := T.fo_30_3)) ?_
            first | refine vy (k_ldr T.ts_9) ?_ | refine vy (k_lda T.ts_9) ?_
            refine vy (a_bin (hr := by first | exact pr_neq | exact pr_nes | exact pr_neb Try.underlying9)) ?_
            refine vl_nil ?_
            refine vif (fun hc42 => ?_) (fun hc42 => ?_)
            · -- yes
             refine vc_then ?_
             refine vc_region ?_
             refine vy a_assign ?_
             refine vl_nil ?_
             refine vc_ret ?_
             refine fin ?_
             simp only [fitsL, fits, C.asD, and_true]
             all_goals (refine scb ?_; unfold rightL; first | (simp_all; done) | (simp_all [emp]; done) | (rcases hcf : caseT x.forth x.name with ⟨a, b⟩; rcases hcb : caseT x.back x.other with ⟨c, d⟩; simp_all; done) | grind)
            · -- no
             refine vc_skip ?_
             refine vc_then ?_
             refine vc_then ?_
             refine vc_region ?_
             first | refine vy (a_fr (hf := T.fo_30_0)) ?_ | refine vy (a_fa (hf := T.fo_30_0)) ?_
             first | refine vy (k_ldr T.ts_3) ?_ | refine vy (k_lda T.ts_3) ?_
             refine vy (a_bin (hr := by first | exact pr_eql | exact pr_eqs | exact pr_eqb Try.underlying3)) ?_
             refine vl_nil ?_
             refine vif (fun hc43 => ?_) (fun hc43 => ?_)
             · -- yes
              have hkkind_1 : x.kind = 1 := by simpa using hc43
              refine vc_then ?_
              refine vc_region ?_
              first | refine vy (a_fr (hf := T.fo_30_2)) ?_ | refine vy (a_fa (hf := T.fo_30_2)) ?_
              first | refine vy (k_ldr T.ts_9) ?_ | refine vy (k_lda T.ts_9) ?_
              refine vy (a_call (hf := T.en_86) (hc := by exact refName_any _)) ?_
              refine vy a_assign ?_
              refine vl_nil ?_
              refine vc_ret ?_
              refine fin ?_
              simp only [fitsL, fits, C.asD, and_true]
              all_goals (refine scb ?_; unfold rightL; first | (simp_all; done) | (simp_all [emp]; done) | (rcases hcf : caseT x.forth x.name with ⟨a, b⟩; rcases hcb : caseT x.back x.other with ⟨c, d⟩; simp_all; done) | grind)
             · -- no
              have hnkind_1 : ¬ x.kind = 1 := by simpa using hc43
              refine vc_skip ?_
              refine vc_then ?_
              refine vc_then ?_
              refine vc_region ?_
              first | refine vy (a_fr (hf := T.fo_30_0)) ?_ | refine vy (a_fa (hf := T.fo_30_0)) ?_
              first | refine vy (k_ldr T.ts_3) ?_ | refine vy (k_lda T.ts_3) ?_
              refine vy (a_bin (hr := by first | exact pr_eql | exact pr_eqs | exact pr_eqb Try.underlying3)) ?_
              refine vl_nil ?_
              refine vif (fun hc44 => ?_) (fun hc44 => ?_)
              · -- yes
               have hkkind_4 : x.kind = 4 := by simpa using hc44
               refine vc_then ?_
               refine vc_region ?_
               first | refine vy (a_fr (hf := T.fo_30_2)) ?_ | refine vy (a_fa (hf := T.fo_30_2)) ?_
               first | refine vy (k_ldr T.ts_9) ?_ | refine vy (k_lda T.ts_9) ?_
               refine vy (a_bin (hr := by first | exact pr_eql | exact pr_eqs | exact pr_eqb Try.underlying9)) ?_
               refine vy a_move ?_
               refine vb 177 (fun hg45 => ?_) (fun hg45 => ?_)
               · -- guard yes
                first | refine vy (a_fr (hf := T.fo_30_1)) ?_ | refine vy (a_fa (hf := T.fo_30_1)) ?_
                first | refine vy (a_fr (hf := T.fo_24_1)) ?_ | refine vy (a_fa (hf := T.fo_24_1)) ?_
                first | refine vy (k_ldr T.ts_9) ?_ | refine vy (k_lda T.ts_9) ?_
                refine vy (a_bin (hr := by first | exact pr_neq | exact pr_nes | exact pr_neb Try.underlying9)) ?_
                refine vy a_pick ?_
                refine vy a_assign ?_
                refine vl_nil ?_
                refine vc_ret ?_
                refine fin ?_
                simp only [fitsL, fits, C.asD, and_true]
                all_goals (refine scb ?_; unfold rightL; first | (simp_all; done) | (simp_all [emp]; done) | (rcases hcf : caseT x.forth x.name with ⟨a, b⟩; rcases hcb : caseT x.back x.other with ⟨c, d⟩; simp_all; done) | grind)
               · -- guard no
                refine vn ?_
                refine vn ?_
                refine vn ?_
                refine vn ?_
                refine vy a_pick ?_
                refine vy a_assign ?_
                refine vl_nil ?_
                refine vc_ret ?_
                refine fin ?_
                simp only [fitsL, fits, C.asD, and_true]
                all_goals (refine scb ?_; unfold rightL; first | (simp_all; done) | (simp_all [emp]; done) | (rcases hcf : caseT x.forth x.name with ⟨a, b⟩; rcases hcb : caseT x.back x.other with ⟨c, d⟩; simp_all; done) | grind)
              · -- no
               have hnkind_4 : ¬ x.kind = 4 := by simpa using hc44
               refine vc_skip ?_
               refine vc_then ?_
               refine vc_region ?_
               first | refine vy (a_fr (hf := T.fo_30_0)) ?_ | refine vy (a_fa (hf := T.fo_30_0)) ?_
               first | refine vy (k_ldr T.ts_3) ?_ | refine vy (k_lda T.ts_3) ?_
               refine vy (a_bin (hr := by first | exact pr_eql | exact pr_eqs | exact pr_eqb Try.underlying3)) ?_
               refine vy a_move ?_
               refine vb 186 (fun hg46 => ?_) (fun hg46 => ?_)
               · -- guard yes
                have hkkind_5 : x.kind = 5 := by simpa using hg46
                first | refine vy (a_fr (hf := T.fo_30_1)) ?_ | refine vy (a_fa (hf := T.fo_30_1)) ?_
                first | refine vy (a_fr (hf := T.fo_24_1)) ?_ | refine vy (a_fa (hf := T.fo_24_1)) ?_
                first | refine vy (k_ldr T.ts_9) ?_ | refine vy (k_lda T.ts_9) ?_
                refine vy (a_bin (hr := by first | exact pr_eql | exact pr_eqs | exact pr_eqb Try.underlying9)) ?_
                refine vy a_pick ?_
                refine vy a_move ?_
                refine vb 192 (fun hg47 => ?_) (fun hg47 => ?_)
                · -- guard yes
                 first | refine vy (a_fr (hf := T.fo_30_2)) ?_ | refine vy (a_fa (hf := T.fo_30_2)) ?_
                 first | refine vy (k_ldr T.ts_9) ?_ | refine vy (k_lda T.ts_9) ?_
                 refine vy (a_call (hf := T.en_86) (hc := by exact refName_any _)) ?_
                 refine vy a_pick ?_
                 refine vy a_assign ?_
                 refine vl_nil ?_
                 refine vc_ret ?_
                 refine fin ?_
                 simp only [fitsL, fits, C.asD, and_true]
                 all_goals (refine scb ?_; unfold rightL; first | (simp_all; done) | (simp_all [emp]; done) | (rcases hcf : caseT x.forth x.name with ⟨a, b⟩; rcases hcb : caseT x.back x.other with ⟨c, d⟩; simp_all; done) | grind)
                · -- guard no
                 refine vn ?_
                 refine vn ?_
                 refine vn ?_
                 refine vy a_pick ?_
                 refine vy a_assign ?_
                 refine vl_nil ?_
                 refine vc_ret ?_
                 refine fin ?_
                 simp only [fitsL, fits, C.asD, and_true]
                 all_goals (refine scb ?_; unfold rightL; first | (simp_all; done) | (simp_all [emp]; done) | (rcases hcf : caseT x.forth x.name with ⟨a, b⟩; rcases hcb : caseT x.back x.other with ⟨c, d⟩; simp_all; done) | grind)
               · -- guard no
                have hnkind_5 : ¬ x.kind = 5 := by simpa using hg46
                refine vn ?_
                refine vn ?_
                refine vn ?_
                refine vn ?_
                refine vy a_pick ?_
                refine vy a_move ?_
                refine vn ?_
                refine vn ?_
                refine vn ?_
                refine vy a_pick ?_
                refine vy a_assign ?_
                refine vl_nil ?_
                refine vc_ret ?_
                refine fin ?_
                simp only [fitsL, fits, C.asD, and_true]
                all_goals (refine scb ?_; unfold rightL; first | (simp_all; done) | (simp_all [emp]; done) | (rcases hcf : caseT x.forth x.name with ⟨a, b⟩; rcases hcb : caseT x.back x.other with ⟨c, d⟩; simp_all; done) | grind)
end Go.Vm
