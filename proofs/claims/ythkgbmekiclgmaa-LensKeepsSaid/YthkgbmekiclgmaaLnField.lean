/- The walks of fields. Printed by lens_field.py. -/
import Derived.Test.YthkgbmekiclgmaaLnTexts
namespace Go.Vm
open Go.RowKit Go.Proofs
set_option linter.unusedVariables false
set_option linter.unusedSimpArgs false
set_option maxRecDepth 10000

theorem take_fold {α : Type} {f : α → D} {l : List α} {k : Nat} : List.drop 0 (List.take k (l.map f)) = (l.take k).map f := by rw [List.drop_zero, List.map_take]
theorem strs_wide {l : List ByteArray} : ∀ x ∈ l.map strD, x.cells.length = 1 := by
  intro x hx; obtain ⟨y, _, rfl⟩ := List.mem_map.1 hx; rfl
theorem take_short {α : Type} {l : List α} {k n : Nat} (h : l.length ≤ n) : (l.take k).length ≤ n := by rw [List.length_take]; omega

set_option maxHeartbeats 1000000 in
theorem cases_any (l : List ByteArray) (hl : l.length ≤ 1000000) : Contract Try.prog 130 [.row (l.map strD)] [.d (.sc (.bool (casesB l)))] := by
 refine fn_of (N := 31) [.tmp 2] Try.func130 ?_
 simp only [envUp, Nat.zero_add, Nat.reduceAdd]
 refine vc_then ?_
 refine vc_region ?_
 refine vy a_assign ?_
 refine vl_nil ?_
 refine vc_then ?_
 refine vc_then ?_
 refine vc_region ?_
 refine vy a_move ?_
 refine vy (a_len (hT := T.es_25)) ?_
 refine vy (a_bin (hr := by first | exact pr_lss | exact pr_lts)) ?_
 refine vy a_move ?_
 refine vb 8 (fun hg1 => ?_) (fun hg1 => ?_)
 · -- guard yes
  refine vn ?_
  refine vn ?_
  refine vn ?_
  refine vy a_pick ?_
  refine vl_nil ?_
  refine vif (fun hc2 => ?_) (fun hc2 => ?_)
  · -- yes
   refine vc_then ?_
   refine vc_region ?_
   refine vy a_assign ?_
   refine vl_nil ?_
   refine vc_ret ?_
   refine fin ?_
   simp only [fitsL, fits, C.asD, and_true]
   all_goals (refine scb ?_; first | (refine (cases_short ?_).symm; (simp only [decide_eq_true_eq, decide_eq_false_iff_not, Bool.not_eq_true', Bool.not_eq_false', Bool.and_eq_true, Bool.or_eq_true, Bool.or_eq_false_iff, Bool.and_eq_false_iff, beq_iff_eq, beq_eq_false_iff_ne, ne_eq, Bool.not_true, Bool.not_false, Bool.false_eq_true, Bool.true_eq_false] at * <;> omega); done) | (refine (cases_long ?_).symm; (simp only [decide_eq_true_eq, decide_eq_false_iff_not, Bool.not_eq_true', Bool.not_eq_false', Bool.and_eq_true, Bool.or_eq_true, Bool.or_eq_false_iff, Bool.and_eq_false_iff, beq_iff_eq, beq_eq_false_iff_ne, ne_eq, Bool.not_true, Bool.not_false, Bool.false_eq_true, Bool.true_eq_false] at * <;> omega); done) | (refine (cases_no hp ?_).symm; simp_all; done) | exact (cases_yes hi.2.1 hi.2.2 (past_end (by assumption)) hi.1).symm)
  · -- no
   first | (exfalso; have hdead := hc2; simp at hdead <;> omega) | (exfalso; simp_all; done)
 · -- guard no
  refine vy a_move ?_
  refine vy (a_len (hT := T.es_25)) ?_
  refine vy (a_bin (hr := by first | exact pr_gtr)) ?_
  refine vy a_pick ?_
  refine vl_nil ?_
  refine vif (fun hc3 => ?_) (fun hc3 => ?_)
  · -- yes
   refine vc_then ?_
   refine vc_region ?_
   refine vy a_assign ?_
   refine vl_nil ?_
   refine vc_ret ?_
   refine fin ?_
   simp only [fitsL, fits, C.asD, and_true]
   all_goals (refine scb ?_; first | (refine (cases_short ?_).symm; (simp only [decide_eq_true_eq, decide_eq_false_iff_not, Bool.not_eq_true', Bool.not_eq_false', Bool.and_eq_true, Bool.or_eq_true, Bool.or_eq_false_iff, Bool.and_eq_false_iff, beq_iff_eq, beq_eq_false_iff_ne, ne_eq, Bool.not_true, Bool.not_false, Bool.false_eq_true, Bool.true_eq_false] at * <;> omega); done) | (refine (cases_long ?_).symm; (simp only [decide_eq_true_eq, decide_eq_false_iff_not, Bool.not_eq_true', Bool.not_eq_false', Bool.and_eq_true, Bool.or_eq_true, Bool.or_eq_false_iff, Bool.and_eq_false_iff, beq_iff_eq, beq_eq_false_iff_ne, ne_eq, Bool.not_true, Bool.not_false, Bool.false_eq_true, Bool.true_eq_false] at * <;> omega); done) | (refine (cases_no hp ?_).symm; simp_all; done) | exact (cases_yes hi.2.1 hi.2.2 (past_end (by assumption)) hi.1).symm)
  · -- no
   have hlo : 1 ≤ l.length := by (simp only [decide_eq_true_eq, decide_eq_false_iff_not, Bool.not_eq_true', Bool.not_eq_false', Bool.and_eq_true, Bool.or_eq_true, Bool.or_eq_false_iff, Bool.and_eq_false_iff, beq_iff_eq, beq_eq_false_iff_ne, ne_eq, Bool.not_true, Bool.not_false, Bool.false_eq_true, Bool.true_eq_false] at * <;> omega)
   have hhi : l.length ≤ 6 := by (simp only [decide_eq_true_eq, decide_eq_false_iff_not, Bool.not_eq_true', Bool.not_eq_false', Bool.and_eq_true, Bool.or_eq_true, Bool.or_eq_false_iff, Bool.and_eq_false_iff, beq_iff_eq, beq_eq_false_iff_ne, ne_eq, Bool.not_true, Bool.not_false, Bool.false_eq_true, Bool.true_eq_false] at * <;> omega)
   refine vc_skip ?_
   refine vc_then ?_
   refine vc_then ?_
   refine vc_region ?_
   refine vy a_move ?_
   refine vy (a_len (hT := T.es_25)) ?_
   refine vy a_move ?_
   refine vl_nil ?_
   refine vc_block ?_
   refine vk [0, 13, 14] (fun (k : Nat) e => upd (e) (some 15) (.c (.d (.sc (.int .i64 (k : Nat)))))) (fun k => k ≤ l.length ∧ okC l k = true ∧ 1 ≤ l.length ∧ l.length ≤ 6) (fun k => l.length - k) 0 ⟨Nat.zero_le _, ⟨okC_zero l, hlo, hhi⟩⟩ ?_ ?_
   · --
    repeat (first | exact sub_keep_nil | refine su ?_ | refine sk ?_)
   · --
    rintro k ⟨hk, hi⟩
    refine vc_then ?_
    refine vc_region ?_
    refine vy (a_bin (hr := by first | exact pr_lss | exact pr_lts)) ?_
    refine vl_nil ?_
    refine vc_then ?_
    refine vif (fun hc4 => ?_) (fun hc4 => ?_)
    · -- yes
     obtain ⟨p, hp⟩ := elem_at hc4
     have hkl := lt_len hp
     have htk := take_short (k := k) hl
     refine vc_skip ?_
     refine vc_then ?_
     refine vc_block ?_
     refine vc_then ?_
     refine vc_region ?_
     refine vy a_move ?_
     refine vy (a_ix (hT := T.es_25) (h0 := by first | omega | decide) (hy := by exact map_at hp)) ?_
     first | refine vy (k_ldr T.ts_9) ?_ | refine vy (k_lda T.ts_9) ?_
     refine vy a_assign ?_
     refine vy a_assign ?_
     refine vl_nil ?_
     refine vc_then ?_
     refine vc_region ?_
     refine vy a_move ?_
     refine vy (a_call (hf := T.en_89) (hc := by exact name_any _)) ?_
     refine vy a_not ?_
     refine vy a_move ?_
     refine vb 23 (fun hg5 => ?_) (fun hg5 => ?_)
     · -- guard yes
      refine vn ?_
      refine vn ?_
      refine vn ?_
      refine vn ?_
      refine vn ?_
      refine vy a_pick ?_
      refine vl_nil ?_
      refine vif (fun hc6 => ?_) (fun hc6 => ?_)
      · -- yes
       refine vc_then ?_
       refine vc_region ?_
       refine vy a_assign ?_
       refine vl_nil ?_
       refine vc_ret ?_
       refine fin ?_
       simp only [fitsL, fits, C.asD, and_true]
       all_goals (refine scb ?_; first | (refine (cases_short ?_).symm; (simp only [decide_eq_true_eq, decide_eq_false_iff_not, Bool.not_eq_true', Bool.not_eq_false', Bool.and_eq_true, Bool.or_eq_true, Bool.or_eq_false_iff, Bool.and_eq_false_iff, beq_iff_eq, beq_eq_false_iff_ne, ne_eq, Bool.not_true, Bool.not_false, Bool.false_eq_true, Bool.true_eq_false] at * <;> omega); done) | (refine (cases_long ?_).symm; (simp only [decide_eq_true_eq, decide_eq_false_iff_not, Bool.not_eq_true', Bool.not_eq_false', Bool.and_eq_true, Bool.or_eq_true, Bool.or_eq_false_iff, Bool.and_eq_false_iff, beq_iff_eq, beq_eq_false_iff_ne, ne_eq, Bool.not_true, Bool.not_false, Bool.false_eq_true, Bool.true_eq_false] at * <;> omega); done) | (refine (cases_no hp ?_).symm; simp_all; done) | exact (cases_yes hi.2.1 hi.2.2 (past_end (by assumption)) hi.1).symm)
      · -- no
       first | (exfalso; have hdead := hc6; simp at hdead <;> omega) | (exfalso; simp_all; done)
     · -- guard no
      refine vy a_move ?_
      refine vy a_move ?_
      refine vy (a_subrow (hT := T.es_25) (hsz := by exact strs_wide) (h1 := by first | omega | (simp only [List.length_map, List.length_append, List.length_nil, List.length_cons]; omega)) (h2 := by first | omega | (simp only [List.length_map, List.length_append, List.length_nil, List.length_cons]; omega)) (hys := by first | exact take_fold | rfl)) ?_
      refine vy a_move ?_
      refine vy (a_call (hf := T.en_131) (hc := by exact contains_any _ _ (by assumption))) ?_
      refine vy a_pick ?_
      refine vl_nil ?_
      refine vif (fun hc7 => ?_) (fun hc7 => ?_)
      · -- yes
       refine vc_then ?_
       refine vc_region ?_
       refine vy a_assign ?_
       refine vl_nil ?_
       refine vc_ret ?_
       refine fin ?_
       simp only [fitsL, fits, C.asD, and_true]
       all_goals (refine scb ?_; first | (refine (cases_short ?_).symm; (simp only [decide_eq_true_eq, decide_eq_false_iff_not, Bool.not_eq_true', Bool.not_eq_false', Bool.and_eq_true, Bool.or_eq_true, Bool.or_eq_false_iff, Bool.and_eq_false_iff, beq_iff_eq, beq_eq_false_iff_ne, ne_eq, Bool.not_true, Bool.not_false, Bool.false_eq_true, Bool.true_eq_false] at * <;> omega); done) | (refine (cases_long ?_).symm; (simp only [decide_eq_true_eq, decide_eq_false_iff_not, Bool.not_eq_true', Bool.not_eq_false', Bool.and_eq_true, Bool.or_eq_true, Bool.or_eq_false_iff, Bool.and_eq_false_iff, beq_iff_eq, beq_eq_false_iff_ne, ne_eq, Bool.not_true, Bool.not_false, Bool.false_eq_true, Bool.true_eq_false] at * <;> omega); done) | (refine (cases_no hp ?_).symm; simp_all; done) | exact (cases_yes hi.2.1 hi.2.2 (past_end (by assumption)) hi.1).symm)
      · -- no
       refine vc_skip ?_
       refine vc_region ?_
       refine vy (a_bin (hr := by first | exact pr_add (by first | exact wrap64 _ (by (first | omega | (simp only [List.length_map, List.length_append, List.length_nil, List.length_cons]; omega))) | rfl) | exact pr_cat (by (first | omega | (simp only [List.length_map, List.length_append, List.length_nil, List.length_cons]; omega))))) ?_
       refine vy a_move ?_
       refine vl_nil ?_
       refine ⟨_, ?_, (k + 1), ⟨lt_len hp, okC_next hp hi.1 (by simp_all) (by simp_all), hi.2⟩, rfl, ?_⟩
       · --
        have := lt_len hp; omega
       · --
        repeat (first | exact sub_keep_nil | refine su ?_ | refine sk ?_)
    · -- no
     refine vc_exit ?_
     refine vc_then ?_
     refine vc_region ?_
     refine vy a_assign ?_
     refine vl_nil ?_
     refine vc_ret ?_
     refine fin ?_
     simp only [fitsL, fits, C.asD, and_true]
     all_goals (refine scb ?_; first | (refine (cases_short ?_).symm; (simp only [decide_eq_true_eq, decide_eq_false_iff_not, Bool.not_eq_true', Bool.not_eq_false', Bool.and_eq_true, Bool.or_eq_true, Bool.or_eq_false_iff, Bool.and_eq_false_iff, beq_iff_eq, beq_eq_false_iff_ne, ne_eq, Bool.not_true, Bool.not_false, Bool.false_eq_true, Bool.true_eq_false] at * <;> omega); done) | (refine (cases_long ?_).symm; (simp only [decide_eq_true_eq, decide_eq_false_iff_not, Bool.not_eq_true', Bool.not_eq_false', Bool.and_eq_true, Bool.or_eq_true, Bool.or_eq_false_iff, Bool.and_eq_false_iff, beq_iff_eq, beq_eq_false_iff_ne, ne_eq, Bool.not_true, Bool.not_false, Bool.false_eq_true, Bool.true_eq_false] at * <;> omega); done) | (refine (cases_no hp ?_).symm; simp_all; done) | exact (cases_yes hi.2.1 hi.2.2 (past_end (by assumption)) hi.1).symm)

set_option maxHeartbeats 1000000 in
theorem fieldRight_any (f : FieldD) (hl : f.cases.length ≤ 1000000) : Contract Try.prog 75 [fD f] [.d (.sc (.bool (rightF f)))] := by
 refine fn_of (N := 75) [.tmp 2] Try.func75 ?_
 simp only [envUp, Nat.zero_add, Nat.reduceAdd]
 refine vc_then ?_
 refine vc_region ?_
 refine vs b_box ?_
 refine vy a_assign ?_
 refine vl_nil ?_
 refine vc_then ?_
 refine vc_then ?_
 refine vc_region ?_
 first | refine vy (a_fr (hf := T.fo_27_0)) ?_ | refine vy (a_fa (hf := T.fo_27_0)) ?_
 first | refine vy (k_ldr T.ts_24) ?_ | refine vy (k_lda T.ts_24) ?_
 refine vy (a_call (hf := T.en_88) (hc := by exact place_any f.at_)) ?_
 refine vy a_not ?_
 refine vl_nil ?_
 refine vif (fun hc1 => ?_) (fun hc1 => ?_)
 · -- yes
  refine vc_then ?_
  refine vc_region ?_
  refine vy a_assign ?_
  refine vl_nil ?_
  refine vc_ret ?_
  refine fin ?_
  simp only [fitsL, fits, C.asD, and_true]
  all_goals (refine scb ?_; first | (simp_all [rightF]; done) | (simp_all [rightF] <;> (intros; omega)))
 · -- no
  refine vc_skip ?_
  refine vc_then ?_
  refine vc_region ?_
  first | refine vy (a_fr (hf := T.fo_27_3)) ?_ | refine vy (a_fa (hf := T.fo_27_3)) ?_
  first | refine vy (k_ldr T.ts_25) ?_ | refine vy (k_lda T.ts_25) ?_
  refine vy (a_len (hT := T.es_25)) ?_
  refine vy (a_bin (hr := by first | exact pr_eql | exact pr_eqs | exact pr_eqb Try.underlying3)) ?_
  refine vy a_assign ?_
  refine vl_nil ?_
  refine vc_then ?_
  refine vc_then ?_
  refine vc_region ?_
  first | refine vy (a_fr (hf := T.fo_27_1)) ?_ | refine vy (a_fa (hf := T.fo_27_1)) ?_
  first | refine vy (k_ldr T.ts_3) ?_ | refine vy (k_lda T.ts_3) ?_
  refine vl_nil ?_
  refine vc_block ?_
  refine vc_then ?_
  refine vc_region ?_
  refine vy (a_bin (hr := by first | exact pr_eql | exact pr_eqs | exact pr_eqb Try.underlying3)) ?_
  refine vy a_assign ?_
  refine vl_nil ?_
  refine vif (fun hc2 => ?_) (fun hc2 => ?_)
  · -- yes
   refine vc_then ?_
   refine vc_region ?_
   first | refine vy (a_fr (hf := T.fo_27_2)) ?_ | refine vy (a_fa (hf := T.fo_27_2)) ?_
   first | refine vy (k_ldr T.ts_9) ?_ | refine vy (k_lda T.ts_9) ?_
   refine vy (a_bin (hr := by first | exact pr_eql | exact pr_eqs | exact pr_eqb Try.underlying9)) ?_
   refine vy a_move ?_
   refine vb 19 (fun hg3 => ?_) (fun hg3 => ?_)
   · -- guard yes
    refine vy a_move ?_
    refine vy a_pick ?_
    refine vy a_move ?_
    refine vb 22 (fun hg4 => ?_) (fun hg4 => ?_)
    · -- guard yes
     first | refine vy (a_fr (hf := T.fo_27_4)) ?_ | refine vy (a_fa (hf := T.fo_27_4)) ?_
     first | refine vy (k_ldr T.ts_2) ?_ | refine vy (k_lda T.ts_2) ?_
     refine vy (a_bin (hr := by first | exact pr_geq)) ?_
     refine vy a_pick ?_
     refine vy a_move ?_
     refine vb 27 (fun hg5 => ?_) (fun hg5 => ?_)
     · -- guard yes
      first | refine vy (a_fr (hf := T.fo_27_4)) ?_ | refine vy (a_fa (hf := T.fo_27_4)) ?_
      first | refine vy (k_ldr T.ts_2) ?_ | refine vy (k_lda T.ts_2) ?_
      refine vy (a_bin (hr := by first | exact pr_leq)) ?_
      refine vy a_pick ?_
      refine vy a_assign ?_
      refine vl_nil ?_
      refine vc_ret ?_
      refine fin ?_
      simp only [fitsL, fits, C.asD, and_true]
      all_goals (refine scb ?_; first | (simp_all [rightF]; done) | (simp_all [rightF] <;> (intros; omega)))
     · -- guard no
      refine vn ?_
      refine vn ?_
      refine vn ?_
      refine vy a_pick ?_
      refine vy a_assign ?_
      refine vl_nil ?_
      refine vc_ret ?_
      refine fin ?_
      simp only [fitsL, fits, C.asD, and_true]
      all_goals (refine scb ?_; first | (simp_all [rightF]; done) | (simp_all [rightF] <;> (intros; omega)))
    · -- guard no
     refine vn ?_
     refine vn ?_
     refine vn ?_
     refine vy a_pick ?_
     refine vy a_move ?_
     refine vn ?_
     refine vn ?_
     refine vn ?_
     refine vy a_pick ?_
     refine vy a_assign ?_
     refine vl_nil ?_
     refine vc_ret ?_
     refine fin ?_
     simp only [fitsL, fits, C.asD, and_true]
     all_goals (refine scb ?_; first | (simp_all [rightF]; done) | (simp_all [rightF] <;> (intros; omega)))
   · -- guard no
    refine vn ?_
    refine vy a_pick ?_
    refine vy a_move ?_
    refine vn ?_
    refine vn ?_
    refine vn ?_
    refine vy a_pick ?_
    refine vy a_move ?_
    refine vn ?_
    refine vn ?_
    refine vn ?_
    refine vy a_pick ?_
    refine vy a_assign ?_
    refine vl_nil ?_
    refine vc_ret ?_
    refine fin ?_
    simp only [fitsL, fits, C.asD, and_true]
    all_goals (refine scb ?_; first | (simp_all [rightF]; done) | (simp_all [rightF] <;> (intros; omega)))
  · -- no
   refine vc_then ?_
   refine vc_region ?_
   refine vy (a_bin (hr := by first | exact pr_eql | exact pr_eqs | exact pr_eqb Try.underlying3)) ?_
   refine vy a_assign ?_
   refine vl_nil ?_
   refine vif (fun hc6 => ?_) (fun hc6 => ?_)
   · -- yes
    refine vc_then ?_
    refine vc_region ?_
    first | refine vy (a_fr (hf := T.fo_27_2)) ?_ | refine vy (a_fa (hf := T.fo_27_2)) ?_
    first | refine vy (k_ldr T.ts_9) ?_ | refine vy (k_lda T.ts_9) ?_
    refine vy (a_call (hf := T.en_91) (hc := by exact text_any _)) ?_
    refine vy a_move ?_
    refine vb 37 (fun hg7 => ?_) (fun hg7 => ?_)
    · -- guard yes
     refine vy a_move ?_
     refine vy a_pick ?_
     refine vy a_move ?_
     refine vb 40 (fun hg8 => ?_) (fun hg8 => ?_)
     · -- guard yes
      first | refine vy (a_fr (hf := T.fo_27_4)) ?_ | refine vy (a_fa (hf := T.fo_27_4)) ?_
      first | refine vy (k_ldr T.ts_2) ?_ | refine vy (k_lda T.ts_2) ?_
      refine vy (a_bin (hr := by first | exact pr_eql | exact pr_eqs | exact pr_eqb Try.underlying2)) ?_
      refine vy a_pick ?_
      refine vy a_assign ?_
      refine vl_nil ?_
      refine vc_ret ?_
      refine fin ?_
      simp only [fitsL, fits, C.asD, and_true]
      all_goals (refine scb ?_; first | (simp_all [rightF]; done) | (simp_all [rightF] <;> (intros; omega)))
     · -- guard no
      refine vn ?_
      refine vn ?_
      refine vn ?_
      refine vy a_pick ?_
      refine vy a_assign ?_
      refine vl_nil ?_
      refine vc_ret ?_
      refine fin ?_
      simp only [fitsL, fits, C.asD, and_true]
      all_goals (refine scb ?_; first | (simp_all [rightF]; done) | (simp_all [rightF] <;> (intros; omega)))
    · -- guard no
     refine vn ?_
     refine vy a_pick ?_
     refine vy a_move ?_
     refine vn ?_
     refine vn ?_
     refine vn ?_
     refine vy a_pick ?_
     refine vy a_assign ?_
     refine vl_nil ?_
     refine vc_ret ?_
     refine fin ?_
     simp only [fitsL, fits, C.asD, and_true]
     all_goals (refine scb ?_; first | (simp_all [rightF]; done) | (simp_all [rightF] <;> (intros; omega)))
   · -- no
    refine vc_then ?_
    refine vc_region ?_
    refine vy (a_bin (hr := by first | exact pr_eql | exact pr_eqs | exact pr_eqb Try.underlying3)) ?_
    refine vy a_assign ?_
    refine vl_nil ?_
    refine vif (fun hc9 => ?_) (fun hc9 => ?_)
    · -- yes
     refine vc_then ?_
     refine vc_region ?_
     first | refine vy (a_fr (hf := T.fo_27_3)) ?_ | refine vy (a_fa (hf := T.fo_27_3)) ?_
     first | refine vy (k_ldr T.ts_25) ?_ | refine vy (k_lda T.ts_25) ?_
     refine vy (a_call (hf := T.en_130) (hc := by exact cases_any _ (by assumption))) ?_
     refine vy a_move ?_
     refine vb 50 (fun hg10 => ?_) (fun hg10 => ?_)
     · -- guard yes
      first | refine vy (a_fr (hf := T.fo_27_3)) ?_ | refine vy (a_fa (hf := T.fo_27_3)) ?_
      first | refine vy (k_ldr T.ts_25) ?_ | refine vy (k_lda T.ts_25) ?_
      first | refine vy (a_fr (hf := T.fo_27_2)) ?_ | refine vy (a_fa (hf := T.fo_27_2)) ?_
      first | refine vy (k_ldr T.ts_9) ?_ | refine vy (k_lda T.ts_9) ?_
      refine vy (a_call (hf := T.en_131) (hc := by exact contains_any _ _ (by assumption))) ?_
      refine vy a_pick ?_
      refine vy a_move ?_
      refine vb 57 (fun hg11 => ?_) (fun hg11 => ?_)
      · -- guard yes
       first | refine vy (a_fr (hf := T.fo_27_4)) ?_ | refine vy (a_fa (hf := T.fo_27_4)) ?_
       first | refine vy (k_ldr T.ts_2) ?_ | refine vy (k_lda T.ts_2) ?_
       refine vy (a_bin (hr := by first | exact pr_eql | exact pr_eqs | exact pr_eqb Try.underlying2)) ?_
       refine vy a_pick ?_
       refine vy a_assign ?_
       refine vl_nil ?_
       refine vc_ret ?_
       refine fin ?_
       simp only [fitsL, fits, C.asD, and_true]
       all_goals (refine scb ?_; first | (simp_all [rightF]; done) | (simp_all [rightF] <;> (intros; omega)))
      · -- guard no
       refine vn ?_
       refine vn ?_
       refine vn ?_
       refine vy a_pick ?_
       refine vy a_assign ?_
       refine vl_nil ?_
       refine vc_ret ?_
       refine fin ?_
       simp only [fitsL, fits, C.asD, and_true]
       all_goals (refine scb ?_; first | (simp_all [rightF]; done) | (simp_all [rightF] <;> (intros; omega)))
     · -- guard no
      refine vn ?_
      refine vn ?_
      refine vn ?_
      refine vn ?_
      refine vn ?_
      refine vy a_pick ?_
      refine vy a_move ?_
      refine vn ?_
      refine vn ?_
      refine vn ?_
      refine vy a_pick ?_
      refine vy a_assign ?_
      refine vl_nil ?_
      refine vc_ret ?_
      refine fin ?_
      simp only [fitsL, fits, C.asD, and_true]
      all_goals (refine scb ?_; first | (simp_all [rightF]; done) | (simp_all [rightF] <;> (intros; omega)))
    · -- no
     refine vc_then ?_
     refine vc_region ?_
     refine vy (a_bin (hr := by first | exact pr_eql | exact pr_eqs | exact pr_eqb Try.underlying3)) ?_
     refine vy a_assign ?_
     refine vl_nil ?_
     refine vif (fun hc12 => ?_) (fun hc12 => ?_)
     · -- yes
      refine vc_then ?_
      refine vc_region ?_
      first | refine vy (a_fr (hf := T.fo_27_2)) ?_ | refine vy (a_fa (hf := T.fo_27_2)) ?_
      first | refine vy (k_ldr T.ts_9) ?_ | refine vy (k_lda T.ts_9) ?_
      refine vy (a_bin (hr := by first | exact pr_eql | exact pr_eqs | exact pr_eqb Try.underlying9)) ?_
      refine vy a_move ?_
      refine vb 67 (fun hg13 => ?_) (fun hg13 => ?_)
      · -- guard yes
       refine vy a_move ?_
       refine vy a_pick ?_
       refine vy a_move ?_
       refine vb 70 (fun hg14 => ?_) (fun hg14 => ?_)
       · -- guard yes
        first | refine vy (a_fr (hf := T.fo_27_4)) ?_ | refine vy (a_fa (hf := T.fo_27_4)) ?_
        first | refine vy (k_ldr T.ts_2) ?_ | refine vy (k_lda T.ts_2) ?_
        refine vy (a_bin (hr := by first | exact pr_eql | exact pr_eqs | exact pr_eqb Try.underlying2)) ?_
        refine vy a_pick ?_
        refine vy a_assign ?_
        refine vl_nil ?_
        refine vc_ret ?_
        refine fin ?_
        simp only [fitsL, fits, C.asD, and_true]
        all_goals (refine scb ?_; first | (simp_all [rightF]; done) | (simp_all [rightF] <;> (intros; omega)))
       · -- guard no
        refine vn ?_
        refine vn ?_
        refine vn ?_
        refine vy a_pick ?_
        refine vy a_assign ?_
        refine vl_nil ?_
        refine vc_ret ?_
        refine fin ?_
        simp only [fitsL, fits, C.asD, and_true]
        all_goals (refine scb ?_; first | (simp_all [rightF]; done) | (simp_all [rightF] <;> (intros; omega)))
      · -- guard no
       refine vn ?_
       refine vy a_pick ?_
       refine vy a_move ?_
       refine vn ?_
       refine vn ?_
       refine vn ?_
       refine vy a_pick ?_
       refine vy a_assign ?_
       refine vl_nil ?_
       refine vc_ret ?_
       refine fin ?_
       simp only [fitsL, fits, C.asD, and_true]
       all_goals (refine scb ?_; first | (simp_all [rightF]; done) | (simp_all [rightF] <;> (intros; omega)))
     · -- no
      refine vc_skip ?_
      refine vc_then ?_
      refine vc_region ?_
      refine vy a_assign ?_
      refine vl_nil ?_
      refine vc_ret ?_
      refine fin ?_
      simp only [fitsL, fits, C.asD, and_true]
      all_goals (refine scb ?_; first | (simp_all [rightF]; done) | (simp_all [rightF] <;> (intros; omega)))

set_option maxHeartbeats 1000000 in
theorem fieldSame_any (f g : FieldD) (hl : f.cases.length ≤ 1000000) : Contract Try.prog 93 [fD f, fD g] [.d (.sc (.bool (decide (f = g))))] := by
 refine fn_of (N := 38) [.tmp 4] Try.func93 ?_
 simp only [envUp, Nat.zero_add, Nat.reduceAdd]
 refine vc_then ?_
 refine vc_region ?_
 refine vs b_box ?_
 refine vs b_box ?_
 refine vy a_assign ?_
 refine vl_nil ?_
 refine vc_then ?_
 refine vc_region ?_
 first | refine vy (a_fr (hf := T.fo_27_0)) ?_ | refine vy (a_fa (hf := T.fo_27_0)) ?_
 first | refine vy (k_ldr T.ts_24) ?_ | refine vy (k_lda T.ts_24) ?_
 first | refine vy (a_fr (hf := T.fo_27_0)) ?_ | refine vy (a_fa (hf := T.fo_27_0)) ?_
 first | refine vy (k_ldr T.ts_24) ?_ | refine vy (k_lda T.ts_24) ?_
 refine vy eq_24 ?_
 refine vy a_move ?_
 refine vb 10 (fun hg1 => ?_) (fun hg1 => ?_)
 · -- guard yes
  first | refine vy (a_fr (hf := T.fo_27_1)) ?_ | refine vy (a_fa (hf := T.fo_27_1)) ?_
  first | refine vy (k_ldr T.ts_3) ?_ | refine vy (k_lda T.ts_3) ?_
  first | refine vy (a_fr (hf := T.fo_27_1)) ?_ | refine vy (a_fa (hf := T.fo_27_1)) ?_
  first | refine vy (k_ldr T.ts_3) ?_ | refine vy (k_lda T.ts_3) ?_
  refine vy (a_bin (hr := by first | exact pr_eql | exact pr_eqs | exact pr_eqb Try.underlying3)) ?_
  refine vy a_pick ?_
  refine vy a_move ?_
  refine vb 17 (fun hg2 => ?_) (fun hg2 => ?_)
  · -- guard yes
   first | refine vy (a_fr (hf := T.fo_27_2)) ?_ | refine vy (a_fa (hf := T.fo_27_2)) ?_
   first | refine vy (k_ldr T.ts_9) ?_ | refine vy (k_lda T.ts_9) ?_
   first | refine vy (a_fr (hf := T.fo_27_2)) ?_ | refine vy (a_fa (hf := T.fo_27_2)) ?_
   first | refine vy (k_ldr T.ts_9) ?_ | refine vy (k_lda T.ts_9) ?_
   refine vy (a_bin (hr := by first | exact pr_eql | exact pr_eqs | exact pr_eqb Try.underlying9)) ?_
   refine vy a_pick ?_
   refine vy a_move ?_
   refine vb 24 (fun hg3 => ?_) (fun hg3 => ?_)
   · -- guard yes
    first | refine vy (a_fr (hf := T.fo_27_3)) ?_ | refine vy (a_fa (hf := T.fo_27_3)) ?_
    first | refine vy (k_ldr T.ts_25) ?_ | refine vy (k_lda T.ts_25) ?_
    first | refine vy (a_fr (hf := T.fo_27_3)) ?_ | refine vy (a_fa (hf := T.fo_27_3)) ?_
    first | refine vy (k_ldr T.ts_25) ?_ | refine vy (k_lda T.ts_25) ?_
    refine vy (a_call (hf := T.en_134) (hc := by exact equal_any _ _ (by assumption))) ?_
    refine vy a_pick ?_
    refine vy a_move ?_
    refine vb 31 (fun hg4 => ?_) (fun hg4 => ?_)
    · -- guard yes
     first | refine vy (a_fr (hf := T.fo_27_4)) ?_ | refine vy (a_fa (hf := T.fo_27_4)) ?_
     first | refine vy (k_ldr T.ts_2) ?_ | refine vy (k_lda T.ts_2) ?_
     first | refine vy (a_fr (hf := T.fo_27_4)) ?_ | refine vy (a_fa (hf := T.fo_27_4)) ?_
     first | refine vy (k_ldr T.ts_2) ?_ | refine vy (k_lda T.ts_2) ?_
     refine vy (a_bin (hr := by first | exact pr_eql | exact pr_eqs | exact pr_eqb Try.underlying2)) ?_
     refine vy a_pick ?_
     refine vy a_assign ?_
     refine vl_nil ?_
     refine vc_ret ?_
     refine fin ?_
     simp only [fitsL, fits, C.asD, and_true]
     all_goals (refine scb ?_; cases f; cases g; simp_all)
    · -- guard no
     refine vn ?_
     refine vn ?_
     refine vn ?_
     refine vn ?_
     refine vn ?_
     refine vy a_pick ?_
     refine vy a_assign ?_
     refine vl_nil ?_
     refine vc_ret ?_
     refine fin ?_
     simp only [fitsL, fits, C.asD, and_true]
     all_goals (refine scb ?_; cases f; cases g; simp_all)
   · -- guard no
    refine vn ?_
    refine vn ?_
    refine vn ?_
    refine vn ?_
    refine vn ?_
    refine vy a_pick ?_
    refine vy a_move ?_
    refine vn ?_
    refine vn ?_
    refine vn ?_
    refine vn ?_
    refine vn ?_
    refine vy a_pick ?_
    refine vy a_assign ?_
    refine vl_nil ?_
    refine vc_ret ?_
    refine fin ?_
    simp only [fitsL, fits, C.asD, and_true]
    all_goals (refine scb ?_; cases f; cases g; simp_all)
  · -- guard no
   refine vn ?_
   refine vn ?_
   refine vn ?_
   refine vn ?_
   refine vn ?_
   refine vy a_pick ?_
   refine vy a_move ?_
   refine vn ?_
   refine vn ?_
   refine vn ?_
   refine vn ?_
   refine vn ?_
   refine vy a_pick ?_
   refine vy a_move ?_
   refine vn ?_
   refine vn ?_
   refine vn ?_
   refine vn ?_
   refine vn ?_
   refine vy a_pick ?_
   refine vy a_assign ?_
   refine vl_nil ?_
   refine vc_ret ?_
   refine fin ?_
   simp only [fitsL, fits, C.asD, and_true]
   all_goals (refine scb ?_; cases f; cases g; simp_all)
 · -- guard no
  refine vn ?_
  refine vn ?_
  refine vn ?_
  refine vn ?_
  refine vn ?_
  refine vy a_pick ?_
  refine vy a_move ?_
  refine vn ?_
  refine vn ?_
  refine vn ?_
  refine vn ?_
  refine vn ?_
  refine vy a_pick ?_
  refine vy a_move ?_
  refine vn ?_
  refine vn ?_
  refine vn ?_
  refine vn ?_
  refine vn ?_
  refine vy a_pick ?_
  refine vy a_move ?_
  refine vn ?_
  refine vn ?_
  refine vn ?_
  refine vn ?_
  refine vn ?_
  refine vy a_pick ?_
  refine vy a_assign ?_
  refine vl_nil ?_
  refine vc_ret ?_
  refine fin ?_
  simp only [fitsL, fits, C.asD, and_true]
  all_goals (refine scb ?_; cases f; cases g; simp_all)

set_option maxHeartbeats 1000000 in
theorem sameTexts_any (l m : List ByteArray) (hl : l.length ≤ 1000000) : Contract Try.prog 81 [.row (l.map strD), .row (m.map strD)] [.d (.sc (.bool (decide (l = m))))] := by
 refine fn_of (N := 8) [.tmp 4] Try.func81 ?_
 simp only [envUp, Nat.zero_add, Nat.reduceAdd]
 refine vc_then ?_
 refine vc_region ?_
 refine vy a_assign ?_
 refine vl_nil ?_
 refine vc_then ?_
 refine vc_region ?_
 refine vy a_move ?_
 refine vy a_move ?_
 refine vy (a_call (hf := T.en_73) (hc := by exact refSames_any _ _ (by assumption))) ?_
 refine vy a_assign ?_
 refine vl_nil ?_
 refine vc_ret ?_
 refine fin ?_
 simp only [fitsL, fits, C.asD, and_true]
 all_goals (first | rfl | trivial)

set_option maxHeartbeats 1000000 in
theorem refFieldSame_any (f g : FieldD) (hl : f.cases.length ≤ 1000000) : Contract Try.prog 25 [fD f, fD g] [.d (.sc (.bool (decide (f = g))))] := by
 refine fn_of (N := 38) [.tmp 4] Try.func25 ?_
 simp only [envUp, Nat.zero_add, Nat.reduceAdd]
 refine vc_then ?_
 refine vc_region ?_
 refine vs b_box ?_
 refine vs b_box ?_
 refine vy a_assign ?_
 refine vl_nil ?_
 refine vc_then ?_
 refine vc_region ?_
 first | refine vy (a_fr (hf := T.fo_27_0)) ?_ | refine vy (a_fa (hf := T.fo_27_0)) ?_
 first | refine vy (k_ldr T.ts_24) ?_ | refine vy (k_lda T.ts_24) ?_
 first | refine vy (a_fr (hf := T.fo_27_0)) ?_ | refine vy (a_fa (hf := T.fo_27_0)) ?_
 first | refine vy (k_ldr T.ts_24) ?_ | refine vy (k_lda T.ts_24) ?_
 refine vy eq_24 ?_
 refine vy a_move ?_
 refine vb 10 (fun hg1 => ?_) (fun hg1 => ?_)
 · -- guard yes
  first | refine vy (a_fr (hf := T.fo_27_1)) ?_ | refine vy (a_fa (hf := T.fo_27_1)) ?_
  first | refine vy (k_ldr T.ts_3) ?_ | refine vy (k_lda T.ts_3) ?_
  first | refine vy (a_fr (hf := T.fo_27_1)) ?_ | refine vy (a_fa (hf := T.fo_27_1)) ?_
  first | refine vy (k_ldr T.ts_3) ?_ | refine vy (k_lda T.ts_3) ?_
  refine vy (a_bin (hr := by first | exact pr_eql | exact pr_eqs | exact pr_eqb Try.underlying3)) ?_
  refine vy a_pick ?_
  refine vy a_move ?_
  refine vb 17 (fun hg2 => ?_) (fun hg2 => ?_)
  · -- guard yes
   first | refine vy (a_fr (hf := T.fo_27_2)) ?_ | refine vy (a_fa (hf := T.fo_27_2)) ?_
   first | refine vy (k_ldr T.ts_9) ?_ | refine vy (k_lda T.ts_9) ?_
   first | refine vy (a_fr (hf := T.fo_27_2)) ?_ | refine vy (a_fa (hf := T.fo_27_2)) ?_
   first | refine vy (k_ldr T.ts_9) ?_ | refine vy (k_lda T.ts_9) ?_
   refine vy (a_bin (hr := by first | exact pr_eql | exact pr_eqs | exact pr_eqb Try.underlying9)) ?_
   refine vy a_pick ?_
   refine vy a_move ?_
   refine vb 24 (fun hg3 => ?_) (fun hg3 => ?_)
   · -- guard yes
    first | refine vy (a_fr (hf := T.fo_27_4)) ?_ | refine vy (a_fa (hf := T.fo_27_4)) ?_
    first | refine vy (k_ldr T.ts_2) ?_ | refine vy (k_lda T.ts_2) ?_
    first | refine vy (a_fr (hf := T.fo_27_4)) ?_ | refine vy (a_fa (hf := T.fo_27_4)) ?_
    first | refine vy (k_ldr T.ts_2) ?_ | refine vy (k_lda T.ts_2) ?_
    refine vy (a_bin (hr := by first | exact pr_eql | exact pr_eqs | exact pr_eqb Try.underlying2)) ?_
    refine vy a_pick ?_
    refine vy a_move ?_
    refine vb 31 (fun hg4 => ?_) (fun hg4 => ?_)
    · -- guard yes
     first | refine vy (a_fr (hf := T.fo_27_3)) ?_ | refine vy (a_fa (hf := T.fo_27_3)) ?_
     first | refine vy (k_ldr T.ts_25) ?_ | refine vy (k_lda T.ts_25) ?_
     first | refine vy (a_fr (hf := T.fo_27_3)) ?_ | refine vy (a_fa (hf := T.fo_27_3)) ?_
     first | refine vy (k_ldr T.ts_25) ?_ | refine vy (k_lda T.ts_25) ?_
     refine vy (a_call (hf := T.en_81) (hc := by exact sameTexts_any _ _ (by assumption))) ?_
     refine vy a_pick ?_
     refine vy a_assign ?_
     refine vl_nil ?_
     refine vc_ret ?_
     refine fin ?_
     simp only [fitsL, fits, C.asD, and_true]
     all_goals (refine scb ?_; cases f; cases g; simp_all)
    · -- guard no
     refine vn ?_
     refine vn ?_
     refine vn ?_
     refine vn ?_
     refine vn ?_
     refine vy a_pick ?_
     refine vy a_assign ?_
     refine vl_nil ?_
     refine vc_ret ?_
     refine fin ?_
     simp only [fitsL, fits, C.asD, and_true]
     all_goals (refine scb ?_; cases f; cases g; simp_all)
   · -- guard no
    refine vn ?_
    refine vn ?_
    refine vn ?_
    refine vn ?_
    refine vn ?_
    refine vy a_pick ?_
    refine vy a_move ?_
    refine vn ?_
    refine vn ?_
    refine vn ?_
    refine vn ?_
    refine vn ?_
    refine vy a_pick ?_
    refine vy a_assign ?_
    refine vl_nil ?_
    refine vc_ret ?_
    refine fin ?_
    simp only [fitsL, fits, C.asD, and_true]
    all_goals (refine scb ?_; cases f; cases g; simp_all)
  · -- guard no
   refine vn ?_
   refine vn ?_
   refine vn ?_
   refine vn ?_
   refine vn ?_
   refine vy a_pick ?_
   refine vy a_move ?_
   refine vn ?_
   refine vn ?_
   refine vn ?_
   refine vn ?_
   refine vn ?_
   refine vy a_pick ?_
   refine vy a_move ?_
   refine vn ?_
   refine vn ?_
   refine vn ?_
   refine vn ?_
   refine vn ?_
   refine vy a_pick ?_
   refine vy a_assign ?_
   refine vl_nil ?_
   refine vc_ret ?_
   refine fin ?_
   simp only [fitsL, fits, C.asD, and_true]
   all_goals (refine scb ?_; cases f; cases g; simp_all)
 · -- guard no
  refine vn ?_
  refine vn ?_
  refine vn ?_
  refine vn ?_
  refine vn ?_
  refine vy a_pick ?_
  refine vy a_move ?_
  refine vn ?_
  refine vn ?_
  refine vn ?_
  refine vn ?_
  refine vn ?_
  refine vy a_pick ?_
  refine vy a_move ?_
  refine vn ?_
  refine vn ?_
  refine vn ?_
  refine vn ?_
  refine vn ?_
  refine vy a_pick ?_
  refine vy a_move ?_
  refine vn ?_
  refine vn ?_
  refine vn ?_
  refine vn ?_
  refine vn ?_
  refine vy a_pick ?_
  refine vy a_assign ?_
  refine vl_nil ?_
  refine vc_ret ?_
  refine fin ?_
  simp only [fitsL, fits, C.asD, and_true]
  all_goals (refine scb ?_; cases f; cases g; simp_all)

set_option maxHeartbeats 1000000 in
theorem fieldOwn_any (f : FieldD) (hl : f.cases.length ≤ 1000000) : Contract Try.prog 66 [fD f] [.d (fD f)] := by
 refine fn_of (N := 8) [.cell 2 27] Try.func66 ?_
 simp only [envUp, Nat.zero_add, Nat.reduceAdd]
 refine vc_then ?_
 refine vc_region ?_
 refine vs b_box ?_
 refine vs (b_alloc (hz := T.zo_27)) ?_
 refine vl_nil ?_
 refine vc_then ?_
 refine vc_region ?_
 first | refine vy (a_fr (hf := T.fo_27_3)) ?_ | refine vy (a_fa (hf := T.fo_27_3)) ?_
 first | refine vy (k_ldr T.ts_25) ?_ | refine vy (k_lda T.ts_25) ?_
 first | refine vs (b_app (hT := T.ef_25) (hw := by exact strs_wide) (h63 := by unfold maxLen; (first | omega | (simp only [List.length_map, List.length_append, List.length_nil, List.length_cons]; omega))) (hby := by first | omega | (simp only [List.length_map, List.length_append, List.length_nil, List.length_cons]; omega)) (hzs := by first | rfl)) ?_ | refine vy (a_appn (hT := T.ef_25) (hw := by exact strs_wide) (h63 := by unfold maxLen; (first | omega | (simp only [List.length_map, List.length_append, List.length_nil, List.length_cons]; omega))) (hby := by first | omega | (simp only [List.length_map, List.length_append, List.length_nil, List.length_cons]; omega))) ?_
 first | refine vy (a_fr (hf := T.fo_27_3)) ?_ | refine vy (a_fa (hf := T.fo_27_3)) ?_
 refine vs (b_store T.ts_25) ?_
 refine vl_nil ?_
 refine vc_then ?_
 refine vc_region ?_
 first | refine vy (k_ldr T.ts_27) ?_ | refine vy (k_lda T.ts_27) ?_
 refine vs (b_store T.ts_27) ?_
 refine vl_nil ?_
 refine vc_ret ?_
 refine fin (hv := by simp only [vres, vres1, pd_all, List.length_cons, List.length_nil, Nat.reduceAdd, Nat.zero_add, Option.map_some, T.ts_27, strD, vget, vd, vc1, vconst, plainV, C.asD, conc, scs, Option.map_some, Option.map_none, ↓upd_get, ↓boxEnv_get, ↓spend_get, noEnv_get, ↓reduceIte, Nat.reduceEqDiff, reduceCtorEq, unref, demote, demoteC, slotV, ↓freshOf_get, fresh1_c, fresh1_at, fresh1_tup, fresh1_junk, ↓keep_get, keep_none]; rfl) ?_
 simp only [fitsL, fits, C.asD, and_true]
 all_goals (rfl)

set_option maxHeartbeats 1000000 in
theorem refFieldRight_any (f : FieldD) (hl : f.cases.length ≤ 1000000) : Contract Try.prog 77 [fD f] [.d (.sc (.bool (rightF f)))] := by
 refine fn_of (N := 96) [.tmp 2] Try.func77 ?_
 simp only [envUp, Nat.zero_add, Nat.reduceAdd]
 refine vc_then ?_
 refine vc_region ?_
 refine vs b_box ?_
 refine vy a_assign ?_
 refine vl_nil ?_
 refine vc_then ?_
 refine vc_then ?_
 refine vc_region ?_
 first | refine vy (a_fr (hf := T.fo_27_0)) ?_ | refine vy (a_fa (hf := T.fo_27_0)) ?_
 first | refine vy (k_ldr T.ts_24) ?_ | refine vy (k_lda T.ts_24) ?_
 refine vy (a_call (hf := T.en_83) (hc := by exact refPlace_any _)) ?_
 refine vy a_not ?_
 refine vl_nil ?_
 refine vif (fun hc1 => ?_) (fun hc1 => ?_)
 · -- yes
  refine vc_then ?_
  refine vc_region ?_
  refine vy a_assign ?_
  refine vl_nil ?_
  refine vc_ret ?_
  refine fin ?_
  simp only [fitsL, fits, C.asD, and_true]
  all_goals (refine scb ?_; first | (refine (rightF_bare ?_ ?_ ?_).symm <;> (simp only [decide_eq_true_eq, decide_eq_false_iff_not, Bool.not_eq_true', Bool.not_eq_false', Bool.and_eq_true, Bool.or_eq_true, Bool.or_eq_false_iff, Bool.and_eq_false_iff, beq_iff_eq, beq_eq_false_iff_ne, ne_eq, Bool.not_true, Bool.not_false, Bool.false_eq_true, Bool.true_eq_false] at * <;> omega); done) | (have hno := cases_no hp (by simp_all); simp_all [rightF]; done) | (have hC := okC_end (past_end (by assumption)) hi; clear hi; have h1 : f.deft ∈ f.cases → 0 < f.cases.length := List.length_pos_of_mem; by_cases hm : f.deft ∈ f.cases <;> simp_all [rightF, casesB] <;> omega) | (simp_all [rightF]; done) | (rw [Bool.eq_iff_iff]; simp_all [rightF, emp] <;> omega) | (rcases (show f.kind = 1 ∨ f.kind = 2 ∨ f.kind = 3 ∨ f.kind = 4 ∨ (f.kind ≠ 1 ∧ f.kind ≠ 2 ∧ f.kind ≠ 3 ∧ f.kind ≠ 4) by omega) with h | h | h | h | h <;> simp_all [rightF, emp] <;> (intros; omega)) | (simp_all [rightF, emp] <;> (intros; omega)))
 · -- no
  refine vc_skip ?_
  refine vc_then ?_
  refine vc_then ?_
  refine vc_region ?_
  first | refine vy (a_fr (hf := T.fo_27_1)) ?_ | refine vy (a_fa (hf := T.fo_27_1)) ?_
  first | refine vy (k_ldr T.ts_3) ?_ | refine vy (k_lda T.ts_3) ?_
  refine vy (a_bin (hr := by first | exact pr_eql | exact pr_eqs | exact pr_eqb Try.underlying3)) ?_
  refine vl_nil ?_
  refine vif (fun hc2 => ?_) (fun hc2 => ?_)
  · -- yes
   refine vc_then ?_
   refine vc_region ?_
   first | refine vy (a_fr (hf := T.fo_27_2)) ?_ | refine vy (a_fa (hf := T.fo_27_2)) ?_
   first | refine vy (k_ldr T.ts_9) ?_ | refine vy (k_lda T.ts_9) ?_
   refine vy (a_bin (hr := by first | exact pr_eql | exact pr_eqs | exact pr_eqb Try.underlying9)) ?_
   refine vy a_move ?_
   refine vb 14 (fun hg3 => ?_) (fun hg3 => ?_)
   · -- guard yes
    first | refine vy (a_fr (hf := T.fo_27_3)) ?_ | refine vy (a_fa (hf := T.fo_27_3)) ?_
    first | refine vy (k_ldr T.ts_25) ?_ | refine vy (k_lda T.ts_25) ?_
    refine vy (a_len (hT := T.es_25)) ?_
    refine vy (a_bin (hr := by first | exact pr_eql | exact pr_eqs | exact pr_eqb Try.underlying3)) ?_
    refine vy a_pick ?_
    refine vy a_move ?_
    refine vb 20 (fun hg4 => ?_) (fun hg4 => ?_)
    · -- guard yes
     first | refine vy (a_fr (hf := T.fo_27_4)) ?_ | refine vy (a_fa (hf := T.fo_27_4)) ?_
     first | refine vy (k_ldr T.ts_2) ?_ | refine vy (k_lda T.ts_2) ?_
     refine vy (a_bin (hr := by first | exact pr_gtr)) ?_
     refine vy a_pick ?_
     refine vy a_move ?_
     refine vb 25 (fun hg5 => ?_) (fun hg5 => ?_)
     · -- guard yes
      first | refine vy (a_fr (hf := T.fo_27_4)) ?_ | refine vy (a_fa (hf := T.fo_27_4)) ?_
      first | refine vy (k_ldr T.ts_2) ?_ | refine vy (k_lda T.ts_2) ?_
      refine vy (a_bin (hr := by first | exact pr_lss | exact pr_lts)) ?_
      refine vy a_pick ?_
      refine vy a_assign ?_
      refine vl_nil ?_
      refine vc_ret ?_
      refine fin ?_
      simp only [fitsL, fits, C.asD, and_true]
      all_goals (refine scb ?_; first | (refine (rightF_bare ?_ ?_ ?_).symm <;> (simp only [decide_eq_true_eq, decide_eq_false_iff_not, Bool.not_eq_true', Bool.not_eq_false', Bool.and_eq_true, Bool.or_eq_true, Bool.or_eq_false_iff, Bool.and_eq_false_iff, beq_iff_eq, beq_eq_false_iff_ne, ne_eq, Bool.not_true, Bool.not_false, Bool.false_eq_true, Bool.true_eq_false] at * <;> omega); done) | (have hno := cases_no hp (by simp_all); simp_all [rightF]; done) | (have hC := okC_end (past_end (by assumption)) hi; clear hi; have h1 : f.deft ∈ f.cases → 0 < f.cases.length := List.length_pos_of_mem; by_cases hm : f.deft ∈ f.cases <;> simp_all [rightF, casesB] <;> omega) | (simp_all [rightF]; done) | (rw [Bool.eq_iff_iff]; simp_all [rightF, emp] <;> omega) | (rcases (show f.kind = 1 ∨ f.kind = 2 ∨ f.kind = 3 ∨ f.kind = 4 ∨ (f.kind ≠ 1 ∧ f.kind ≠ 2 ∧ f.kind ≠ 3 ∧ f.kind ≠ 4) by omega) with h | h | h | h | h <;> simp_all [rightF, emp] <;> (intros; omega)) | (simp_all [rightF, emp] <;> (intros; omega)))
     · -- guard no
      refine vn ?_
      refine vn ?_
      refine vn ?_
      refine vy a_pick ?_
      refine vy a_assign ?_
      refine vl_nil ?_
      refine vc_ret ?_
      refine fin ?_
      simp only [fitsL, fits, C.asD, and_true]
      all_goals (refine scb ?_; first | (refine (rightF_bare ?_ ?_ ?_).symm <;> (simp only [decide_eq_true_eq, decide_eq_false_iff_not, Bool.not_eq_true', Bool.not_eq_false', Bool.and_eq_true, Bool.or_eq_true, Bool.or_eq_false_iff, Bool.and_eq_false_iff, beq_iff_eq, beq_eq_false_iff_ne, ne_eq, Bool.not_true, Bool.not_false, Bool.false_eq_true, Bool.true_eq_false] at * <;> omega); done) | (have hno := cases_no hp (by simp_all); simp_all [rightF]; done) | (have hC := okC_end (past_end (by assumption)) hi; clear hi; have h1 : f.deft ∈ f.cases → 0 < f.cases.length := List.length_pos_of_mem; by_cases hm : f.deft ∈ f.cases <;> simp_all [rightF, casesB] <;> omega) | (simp_all [rightF]; done) | (rw [Bool.eq_iff_iff]; simp_all [rightF, emp] <;> omega) | (rcases (show f.kind = 1 ∨ f.kind = 2 ∨ f.kind = 3 ∨ f.kind = 4 ∨ (f.kind ≠ 1 ∧ f.kind ≠ 2 ∧ f.kind ≠ 3 ∧ f.kind ≠ 4) by omega) with h | h | h | h | h <;> simp_all [rightF, emp] <;> (intros; omega)) | (simp_all [rightF, emp] <;> (intros; omega)))
    · -- guard no
     refine vn ?_
     refine vn ?_
     refine vn ?_
     refine vy a_pick ?_
     refine vy a_move ?_
     refine vn ?_
     refine vn ?_
     refine vn ?_
     refine vy a_pick ?_
     refine vy a_assign ?_
     refine vl_nil ?_
     refine vc_ret ?_
     refine fin ?_
     simp only [fitsL, fits, C.asD, and_true]
     all_goals (refine scb ?_; first | (refine (rightF_bare ?_ ?_ ?_).symm <;> (simp only [decide_eq_true_eq, decide_eq_false_iff_not, Bool.not_eq_true', Bool.not_eq_false', Bool.and_eq_true, Bool.or_eq_true, Bool.or_eq_false_iff, Bool.and_eq_false_iff, beq_iff_eq, beq_eq_false_iff_ne, ne_eq, Bool.not_true, Bool.not_false, Bool.false_eq_true, Bool.true_eq_false] at * <;> omega); done) | (have hno := cases_no hp (by simp_all); simp_all [rightF]; done) | (have hC := okC_end (past_end (by assumption)) hi; clear hi; have h1 : f.deft ∈ f.cases → 0 < f.cases.length := List.length_pos_of_mem; by_cases hm : f.deft ∈ f.cases <;> simp_all [rightF, casesB] <;> omega) | (simp_all [rightF]; done) | (rw [Bool.eq_iff_iff]; simp_all [rightF, emp] <;> omega) | (rcases (show f.kind = 1 ∨ f.kind = 2 ∨ f.kind = 3 ∨ f.kind = 4 ∨ (f.kind ≠ 1 ∧ f.kind ≠ 2 ∧ f.kind ≠ 3 ∧ f.kind ≠ 4) by omega) with h | h | h | h | h <;> simp_all [rightF, emp] <;> (intros; omega)) | (simp_all [rightF, emp] <;> (intros; omega)))
   · -- guard no
    refine vn ?_
    refine vn ?_
    refine vn ?_
    refine vn ?_
    refine vy a_pick ?_
    refine vy a_move ?_
    refine vn ?_
    refine vn ?_
    refine vn ?_
    refine vy a_pick ?_
    refine vy a_move ?_
    refine vn ?_
    refine vn ?_
    refine vn ?_
    refine vy a_pick ?_
    refine vy a_assign ?_
    refine vl_nil ?_
    refine vc_ret ?_
    refine fin ?_
    simp only [fitsL, fits, C.asD, and_true]
    all_goals (refine scb ?_; first | (refine (rightF_bare ?_ ?_ ?_).symm <;> (simp only [decide_eq_true_eq, decide_eq_false_iff_not, Bool.not_eq_true', Bool.not_eq_false', Bool.and_eq_true, Bool.or_eq_true, Bool.or_eq_false_iff, Bool.and_eq_false_iff, beq_iff_eq, beq_eq_false_iff_ne, ne_eq, Bool.not_true, Bool.not_false, Bool.false_eq_true, Bool.true_eq_false] at * <;> omega); done) | (have hno := cases_no hp (by simp_all); simp_all [rightF]; done) | (have hC := okC_end (past_end (by assumption)) hi; clear hi; have h1 : f.deft ∈ f.cases → 0 < f.cases.length := List.length_pos_of_mem; by_cases hm : f.deft ∈ f.cases <;> simp_all [rightF, casesB] <;> omega) | (simp_all [rightF]; done) | (rw [Bool.eq_iff_iff]; simp_all [rightF, emp] <;> omega) | (rcases (show f.kind = 1 ∨ f.kind = 2 ∨ f.kind = 3 ∨ f.kind = 4 ∨ (f.kind ≠ 1 ∧ f.kind ≠ 2 ∧ f.kind ≠ 3 ∧ f.kind ≠ 4) by omega) with h | h | h | h | h <;> simp_all [rightF, emp] <;> (intros; omega)) | (simp_all [rightF, emp] <;> (intros; omega)))
  · -- no
   refine vc_skip ?_
   refine vc_then ?_
   refine vc_then ?_
   refine vc_region ?_
   first | refine vy (a_fr (hf := T.fo_27_4)) ?_ | refine vy (a_fa (hf := T.fo_27_4)) ?_
   first | refine vy (k_ldr T.ts_2) ?_ | refine vy (k_lda T.ts_2) ?_
   refine vy (a_bin (hr := by first | exact pr_neq | exact pr_nes | exact pr_neb Try.underlying2)) ?_
   refine vl_nil ?_
   refine vif (fun hc6 => ?_) (fun hc6 => ?_)
   · -- yes
    refine vc_then ?_
    refine vc_region ?_
    refine vy a_assign ?_
    refine vl_nil ?_
    refine vc_ret ?_
    refine fin ?_
    simp only [fitsL, fits, C.asD, and_true]
    all_goals (refine scb ?_; first | (refine (rightF_bare ?_ ?_ ?_).symm <;> (simp only [decide_eq_true_eq, decide_eq_false_iff_not, Bool.not_eq_true', Bool.not_eq_false', Bool.and_eq_true, Bool.or_eq_true, Bool.or_eq_false_iff, Bool.and_eq_false_iff, beq_iff_eq, beq_eq_false_iff_ne, ne_eq, Bool.not_true, Bool.not_false, Bool.false_eq_true, Bool.true_eq_false] at * <;> omega); done) | (have hno := cases_no hp (by simp_all); simp_all [rightF]; done) | (have hC := okC_end (past_end (by assumption)) hi; clear hi; have h1 : f.deft ∈ f.cases → 0 < f.cases.length := List.length_pos_of_mem; by_cases hm : f.deft ∈ f.cases <;> simp_all [rightF, casesB] <;> omega) | (simp_all [rightF]; done) | (rw [Bool.eq_iff_iff]; simp_all [rightF, emp] <;> omega) | (rcases (show f.kind = 1 ∨ f.kind = 2 ∨ f.kind = 3 ∨ f.kind = 4 ∨ (f.kind ≠ 1 ∧ f.kind ≠ 2 ∧ f.kind ≠ 3 ∧ f.kind ≠ 4) by omega) with h | h | h | h | h <;> simp_all [rightF, emp] <;> (intros; omega)) | (simp_all [rightF, emp] <;> (intros; omega)))
   · -- no
    refine vc_skip ?_
    refine vc_then ?_
    refine vc_then ?_
    refine vc_region ?_
    first | refine vy (a_fr (hf := T.fo_27_1)) ?_ | refine vy (a_fa (hf := T.fo_27_1)) ?_
    first | refine vy (k_ldr T.ts_3) ?_ | refine vy (k_lda T.ts_3) ?_
    refine vy (a_bin (hr := by first | exact pr_eql | exact pr_eqs | exact pr_eqb Try.underlying3)) ?_
    refine vl_nil ?_
    refine vif (fun hc7 => ?_) (fun hc7 => ?_)
    · -- yes
     refine vc_then ?_
     refine vc_then ?_
     refine vc_region ?_
     refine vy a_assign ?_
     refine vl_nil ?_
     refine vc_block ?_
     refine vk [1] (fun (k : Nat) e => upd (e) (some 3) (.c (.d (.sc (.int .i64 (k : Nat)))))) (fun k => k ≤ f.cases.length ∧ okC f.cases k = true) (fun k => f.cases.length - k) 0 ⟨Nat.zero_le _, okC_zero _⟩ ?_ ?_
     · --
      repeat (first | exact sub_keep_nil | refine su ?_ | refine sk ?_)
     · --
      rintro k ⟨hk, hi⟩
      refine vc_then ?_
      refine vc_then ?_
      refine vc_region ?_
      refine vy a_move ?_
      first | refine vy (a_fr (hf := T.fo_27_3)) ?_ | refine vy (a_fa (hf := T.fo_27_3)) ?_
      first | refine vy (k_ldr T.ts_25) ?_ | refine vy (k_lda T.ts_25) ?_
      refine vy (a_len (hT := T.es_25)) ?_
      refine vy (a_bin (hr := by first | exact pr_lss | exact pr_lts)) ?_
      refine vl_nil ?_
      refine vif (fun hc8 => ?_) (fun hc8 => ?_)
      · -- yes
       obtain ⟨p, hp⟩ := elem_at hc8
       have hkl := lt_len hp
       have htk := take_short (k := k) hl
       refine vc_skip ?_
       refine vc_then ?_
       refine vc_block ?_
       refine vc_then ?_
       refine vc_drawn0 T.mixed ?_
       first | refine qy (a_fr (hf := T.fo_27_3)) ?_ | refine qy (a_fa (hf := T.fo_27_3)) ?_
       first | refine qy (k_ldr T.ts_25) ?_ | refine qy (k_lda T.ts_25) ?_
       refine qy a_move ?_
       refine qy (a_ix (hT := T.es_25) (h0 := by first | omega | decide) (hy := by exact map_at hp)) ?_
       first | refine qy (k_ldr T.ts_9) ?_ | refine qy (k_lda T.ts_9) ?_
       refine qy (a_call (hf := T.en_86) (hc := by exact refName_any _)) ?_
       refine qy a_not ?_
       refine qy a_move ?_
       refine qb 50 (fun hg9 => ?_) (fun hg9 => ?_)
       · -- guard yes
        refine qn ?_
        refine qn ?_
        refine qn ?_
        refine qn ?_
        refine qn ?_
        refine qn ?_
        refine qn ?_
        refine qn ?_
        refine qn ?_
        refine qn ?_
        refine qy a_pick ?_
        show _
        refine vif (fun hc10 => ?_) (fun hc10 => ?_)
        · -- yes
         refine vc_then ?_
         refine vc_region ?_
         refine vy a_assign ?_
         refine vl_nil ?_
         refine vc_ret ?_
         refine fin ?_
         simp only [fitsL, fits, C.asD, and_true]
         all_goals (refine scb ?_; first | (refine (rightF_bare ?_ ?_ ?_).symm <;> (simp only [decide_eq_true_eq, decide_eq_false_iff_not, Bool.not_eq_true', Bool.not_eq_false', Bool.and_eq_true, Bool.or_eq_true, Bool.or_eq_false_iff, Bool.and_eq_false_iff, beq_iff_eq, beq_eq_false_iff_ne, ne_eq, Bool.not_true, Bool.not_false, Bool.false_eq_true, Bool.true_eq_false] at * <;> omega); done) | (have hno := cases_no hp (by simp_all); simp_all [rightF]; done) | (have hC := okC_end (past_end (by assumption)) hi; clear hi; have h1 : f.deft ∈ f.cases → 0 < f.cases.length := List.length_pos_of_mem; by_cases hm : f.deft ∈ f.cases <;> simp_all [rightF, casesB] <;> omega) | (simp_all [rightF]; done) | (rw [Bool.eq_iff_iff]; simp_all [rightF, emp] <;> omega) | (rcases (show f.kind = 1 ∨ f.kind = 2 ∨ f.kind = 3 ∨ f.kind = 4 ∨ (f.kind ≠ 1 ∧ f.kind ≠ 2 ∧ f.kind ≠ 3 ∧ f.kind ≠ 4) by omega) with h | h | h | h | h <;> simp_all [rightF, emp] <;> (intros; omega)) | (simp_all [rightF, emp] <;> (intros; omega)))
        · -- no
         first | (exfalso; have hdead := hc10; simp at hdead <;> omega) | (exfalso; simp_all; done)
       · -- guard no
        first | refine qy (a_fr (hf := T.fo_27_3)) ?_ | refine qy (a_fa (hf := T.fo_27_3)) ?_
        first | refine qy (k_ldr T.ts_25) ?_ | refine qy (k_lda T.ts_25) ?_
        refine qy a_move ?_
        refine qy (a_subrow (hT := T.es_25) (hsz := by exact strs_wide) (h1 := by first | omega | (simp only [List.length_map, List.length_append, List.length_nil, List.length_cons]; omega)) (h2 := by first | omega | (simp only [List.length_map, List.length_append, List.length_nil, List.length_cons]; omega)) (hys := by first | exact take_fold | rfl)) ?_
        first | refine qy (a_fr (hf := T.fo_27_3)) ?_ | refine qy (a_fa (hf := T.fo_27_3)) ?_
        first | refine qy (k_ldr T.ts_25) ?_ | refine qy (k_lda T.ts_25) ?_
        refine qy a_move ?_
        refine qy (a_ix (hT := T.es_25) (h0 := by first | omega | decide) (hy := by exact map_at hp)) ?_
        first | refine qy (k_ldr T.ts_9) ?_ | refine qy (k_lda T.ts_9) ?_
        refine qy (a_call (hf := T.en_132) (hc := by exact refHas_any _ _ (by assumption))) ?_
        refine qy a_pick ?_
        show _
        refine vif (fun hc11 => ?_) (fun hc11 => ?_)
        · -- yes
         refine vc_then ?_
         refine vc_region ?_
         refine vy a_assign ?_
         refine vl_nil ?_
         refine vc_ret ?_
         refine fin ?_
         simp only [fitsL, fits, C.asD, and_true]
         all_goals (refine scb ?_; first | (refine (rightF_bare ?_ ?_ ?_).symm <;> (simp only [decide_eq_true_eq, decide_eq_false_iff_not, Bool.not_eq_true', Bool.not_eq_false', Bool.and_eq_true, Bool.or_eq_true, Bool.or_eq_false_iff, Bool.and_eq_false_iff, beq_iff_eq, beq_eq_false_iff_ne, ne_eq, Bool.not_true, Bool.not_false, Bool.false_eq_true, Bool.true_eq_false] at * <;> omega); done) | (have hno := cases_no hp (by simp_all); simp_all [rightF]; done) | (have hC := okC_end (past_end (by assumption)) hi; clear hi; have h1 : f.deft ∈ f.cases → 0 < f.cases.length := List.length_pos_of_mem; by_cases hm : f.deft ∈ f.cases <;> simp_all [rightF, casesB] <;> omega) | (simp_all [rightF]; done) | (rw [Bool.eq_iff_iff]; simp_all [rightF, emp] <;> omega) | (rcases (show f.kind = 1 ∨ f.kind = 2 ∨ f.kind = 3 ∨ f.kind = 4 ∨ (f.kind ≠ 1 ∧ f.kind ≠ 2 ∧ f.kind ≠ 3 ∧ f.kind ≠ 4) by omega) with h | h | h | h | h <;> simp_all [rightF, emp] <;> (intros; omega)) | (simp_all [rightF, emp] <;> (intros; omega)))
        · -- no
         refine vc_skip ?_
         refine vc_region ?_
         refine vy a_move ?_
         refine vy (a_bin (hr := by first | exact pr_add (by first | exact wrap64 _ (by (first | omega | (simp only [List.length_map, List.length_append, List.length_nil, List.length_cons]; omega))) | rfl) | exact pr_cat (by (first | omega | (simp only [List.length_map, List.length_append, List.length_nil, List.length_cons]; omega))))) ?_
         refine vy a_assign ?_
         refine vl_nil ?_
         refine ⟨_, ?_, (k + 1), ⟨lt_len hp, okC_next hp hi (by simp_all) (by simp_all)⟩, rfl, ?_⟩
         · --
          have := lt_len hp; omega
         · --
          repeat (first | exact sub_keep_nil | refine su ?_ | refine sk ?_)
      · -- no
       refine vc_exit ?_
       refine vc_then ?_
       refine vc_region ?_
       first | refine vy (a_fr (hf := T.fo_27_3)) ?_ | refine vy (a_fa (hf := T.fo_27_3)) ?_
       first | refine vy (k_ldr T.ts_25) ?_ | refine vy (k_lda T.ts_25) ?_
       refine vy (a_len (hT := T.es_25)) ?_
       refine vy (a_bin (hr := by first | exact pr_lss | exact pr_lts)) ?_
       refine vy a_move ?_
       refine vb 66 (fun hg12 => ?_) (fun hg12 => ?_)
       · -- guard yes
        first | refine vy (a_fr (hf := T.fo_27_3)) ?_ | refine vy (a_fa (hf := T.fo_27_3)) ?_
        first | refine vy (k_ldr T.ts_25) ?_ | refine vy (k_lda T.ts_25) ?_
        first | refine vy (a_fr (hf := T.fo_27_2)) ?_ | refine vy (a_fa (hf := T.fo_27_2)) ?_
        first | refine vy (k_ldr T.ts_9) ?_ | refine vy (k_lda T.ts_9) ?_
        refine vy (a_call (hf := T.en_132) (hc := by exact refHas_any _ _ (by assumption))) ?_
        refine vy a_pick ?_
        refine vy a_assign ?_
        refine vl_nil ?_
        refine vc_ret ?_
        refine fin ?_
        simp only [fitsL, fits, C.asD, and_true]
        all_goals (refine scb ?_; first | (refine (rightF_bare ?_ ?_ ?_).symm <;> (simp only [decide_eq_true_eq, decide_eq_false_iff_not, Bool.not_eq_true', Bool.not_eq_false', Bool.and_eq_true, Bool.or_eq_true, Bool.or_eq_false_iff, Bool.and_eq_false_iff, beq_iff_eq, beq_eq_false_iff_ne, ne_eq, Bool.not_true, Bool.not_false, Bool.false_eq_true, Bool.true_eq_false] at * <;> omega); done) | (have hno := cases_no hp (by simp_all); simp_all [rightF]; done) | (have hC := okC_end (past_end (by assumption)) hi; clear hi; have h1 : f.deft ∈ f.cases → 0 < f.cases.length := List.length_pos_of_mem; by_cases hm : f.deft ∈ f.cases <;> simp_all [rightF, casesB] <;> omega) | (simp_all [rightF]; done) | (rw [Bool.eq_iff_iff]; simp_all [rightF, emp] <;> omega) | (rcases (show f.kind = 1 ∨ f.kind = 2 ∨ f.kind = 3 ∨ f.kind = 4 ∨ (f.kind ≠ 1 ∧ f.kind ≠ 2 ∧ f.kind ≠ 3 ∧ f.kind ≠ 4) by omega) with h | h | h | h | h <;> simp_all [rightF, emp] <;> (intros; omega)) | (simp_all [rightF, emp] <;> (intros; omega)))
       · -- guard no
        refine vn ?_
        refine vn ?_
        refine vn ?_
        refine vn ?_
        refine vn ?_
        refine vy a_pick ?_
        refine vy a_assign ?_
        refine vl_nil ?_
        refine vc_ret ?_
        refine fin ?_
        simp only [fitsL, fits, C.asD, and_true]
        all_goals (refine scb ?_; first | (refine (rightF_bare ?_ ?_ ?_).symm <;> (simp only [decide_eq_true_eq, decide_eq_false_iff_not, Bool.not_eq_true', Bool.not_eq_false', Bool.and_eq_true, Bool.or_eq_true, Bool.or_eq_false_iff, Bool.and_eq_false_iff, beq_iff_eq, beq_eq_false_iff_ne, ne_eq, Bool.not_true, Bool.not_false, Bool.false_eq_true, Bool.true_eq_false] at * <;> omega); done) | (have hno := cases_no hp (by simp_all); simp_all [rightF]; done) | (have hC := okC_end (past_end (by assumption)) hi; clear hi; have h1 : f.deft ∈ f.cases → 0 < f.cases.length := List.length_pos_of_mem; by_cases hm : f.deft ∈ f.cases <;> simp_all [rightF, casesB] <;> omega) | (simp_all [rightF]; done) | (rw [Bool.eq_iff_iff]; simp_all [rightF, emp] <;> omega) | (rcases (show f.kind = 1 ∨ f.kind = 2 ∨ f.kind = 3 ∨ f.kind = 4 ∨ (f.kind ≠ 1 ∧ f.kind ≠ 2 ∧ f.kind ≠ 3 ∧ f.kind ≠ 4) by omega) with h | h | h | h | h <;> simp_all [rightF, emp] <;> (intros; omega)) | (simp_all [rightF, emp] <;> (intros; omega)))
    · -- no
     refine vc_skip ?_
     refine vc_then ?_
     refine vc_then ?_
     refine vc_region ?_
     first | refine vy (a_fr (hf := T.fo_27_3)) ?_ | refine vy (a_fa (hf := T.fo_27_3)) ?_
     first | refine vy (k_ldr T.ts_25) ?_ | refine vy (k_lda T.ts_25) ?_
     refine vy (a_len (hT := T.es_25)) ?_
     refine vy (a_bin (hr := by first | exact pr_gtr)) ?_
     refine vl_nil ?_
     refine vif (fun hc13 => ?_) (fun hc13 => ?_)
     · -- yes
      refine vc_then ?_
      refine vc_region ?_
      refine vy a_assign ?_
      refine vl_nil ?_
      refine vc_ret ?_
      refine fin ?_
      simp only [fitsL, fits, C.asD, and_true]
      all_goals (refine scb ?_; first | (refine (rightF_bare ?_ ?_ ?_).symm <;> (simp only [decide_eq_true_eq, decide_eq_false_iff_not, Bool.not_eq_true', Bool.not_eq_false', Bool.and_eq_true, Bool.or_eq_true, Bool.or_eq_false_iff, Bool.and_eq_false_iff, beq_iff_eq, beq_eq_false_iff_ne, ne_eq, Bool.not_true, Bool.not_false, Bool.false_eq_true, Bool.true_eq_false] at * <;> omega); done) | (have hno := cases_no hp (by simp_all); simp_all [rightF]; done) | (have hC := okC_end (past_end (by assumption)) hi; clear hi; have h1 : f.deft ∈ f.cases → 0 < f.cases.length := List.length_pos_of_mem; by_cases hm : f.deft ∈ f.cases <;> simp_all [rightF, casesB] <;> omega) | (simp_all [rightF]; done) | (rw [Bool.eq_iff_iff]; simp_all [rightF, emp] <;> omega) | (rcases (show f.kind = 1 ∨ f.kind = 2 ∨ f.kind = 3 ∨ f.kind = 4 ∨ (f.kind ≠ 1 ∧ f.kind ≠ 2 ∧ f.kind ≠ 3 ∧ f.kind ≠ 4) by omega) with h | h | h | h | h <;> simp_all [rightF, emp] <;> (intros; omega)) | (simp_all [rightF, emp] <;> (intros; omega)))
     · -- no
      refine vc_skip ?_
      refine vc_then ?_
      refine vc_region ?_
      first | refine vy (a_fr (hf := T.fo_27_1)) ?_ | refine vy (a_fa (hf := T.fo_27_1)) ?_
      first | refine vy (k_ldr T.ts_3) ?_ | refine vy (k_lda T.ts_3) ?_
      refine vy (a_bin (hr := by first | exact pr_eql | exact pr_eqs | exact pr_eqb Try.underlying3)) ?_
      refine vy a_move ?_
      refine vb 80 (fun hg14 => ?_) (fun hg14 => ?_)
      · -- guard yes
       first | refine vy (a_fr (hf := T.fo_27_2)) ?_ | refine vy (a_fa (hf := T.fo_27_2)) ?_
       first | refine vy (k_ldr T.ts_9) ?_ | refine vy (k_lda T.ts_9) ?_
       refine vy (a_lens (hT := T.us_9)) ?_
       refine vy (a_bin (hr := by first | exact pr_lss | exact pr_lts)) ?_
       refine vy a_pick ?_
       refine vy a_move ?_
       refine vb 86 (fun hg15 => ?_) (fun hg15 => ?_)
       · -- guard yes
        refine vn ?_
        refine vn ?_
        refine vn ?_
        refine vn ?_
        refine vn ?_
        refine vn ?_
        refine vn ?_
        refine vn ?_
        refine vy a_pick ?_
        refine vy a_assign ?_
        refine vl_nil ?_
        refine vc_ret ?_
        refine fin ?_
        simp only [fitsL, fits, C.asD, and_true]
        all_goals (refine scb ?_; first | (refine (rightF_bare ?_ ?_ ?_).symm <;> (simp only [decide_eq_true_eq, decide_eq_false_iff_not, Bool.not_eq_true', Bool.not_eq_false', Bool.and_eq_true, Bool.or_eq_true, Bool.or_eq_false_iff, Bool.and_eq_false_iff, beq_iff_eq, beq_eq_false_iff_ne, ne_eq, Bool.not_true, Bool.not_false, Bool.false_eq_true, Bool.true_eq_false] at * <;> omega); done) | (have hno := cases_no hp (by simp_all); simp_all [rightF]; done) | (have hC := okC_end (past_end (by assumption)) hi; clear hi; have h1 : f.deft ∈ f.cases → 0 < f.cases.length := List.length_pos_of_mem; by_cases hm : f.deft ∈ f.cases <;> simp_all [rightF, casesB] <;> omega) | (simp_all [rightF]; done) | (rw [Bool.eq_iff_iff]; simp_all [rightF, emp] <;> omega) | (rcases (show f.kind = 1 ∨ f.kind = 2 ∨ f.kind = 3 ∨ f.kind = 4 ∨ (f.kind ≠ 1 ∧ f.kind ≠ 2 ∧ f.kind ≠ 3 ∧ f.kind ≠ 4) by omega) with h | h | h | h | h <;> simp_all [rightF, emp] <;> (intros; omega)) | (simp_all [rightF, emp] <;> (intros; omega)))
       · -- guard no
        first | refine vy (a_fr (hf := T.fo_27_1)) ?_ | refine vy (a_fa (hf := T.fo_27_1)) ?_
        first | refine vy (k_ldr T.ts_3) ?_ | refine vy (k_lda T.ts_3) ?_
        refine vy (a_bin (hr := by first | exact pr_eql | exact pr_eqs | exact pr_eqb Try.underlying3)) ?_
        refine vy a_move ?_
        refine vb 90 (fun hg16 => ?_) (fun hg16 => ?_)
        · -- guard yes
         exfalso; (simp only [decide_eq_true_eq, decide_eq_false_iff_not, Bool.not_eq_true', Bool.not_eq_false', ne_eq, Bool.not_true, Bool.not_false, Bool.false_eq_true, Bool.true_eq_false, not_false_eq_true, not_true_eq_false] at * <;> omega)
        · -- guard no
         refine vn ?_
         refine vn ?_
         refine vn ?_
         refine vy a_pick ?_
         refine vy a_pick ?_
         refine vy a_assign ?_
         refine vl_nil ?_
         refine vc_ret ?_
         refine fin ?_
         simp only [fitsL, fits, C.asD, and_true]
         all_goals (refine scb ?_; first | (refine (rightF_bare ?_ ?_ ?_).symm <;> (simp only [decide_eq_true_eq, decide_eq_false_iff_not, Bool.not_eq_true', Bool.not_eq_false', Bool.and_eq_true, Bool.or_eq_true, Bool.or_eq_false_iff, Bool.and_eq_false_iff, beq_iff_eq, beq_eq_false_iff_ne, ne_eq, Bool.not_true, Bool.not_false, Bool.false_eq_true, Bool.true_eq_false] at * <;> omega); done) | (have hno := cases_no hp (by simp_all); simp_all [rightF]; done) | (have hC := okC_end (past_end (by assumption)) hi; clear hi; have h1 : f.deft ∈ f.cases → 0 < f.cases.length := List.length_pos_of_mem; by_cases hm : f.deft ∈ f.cases <;> simp_all [rightF, casesB] <;> omega) | (simp_all [rightF]; done) | (rw [Bool.eq_iff_iff]; simp_all [rightF, emp] <;> omega) | (rcases (show f.kind = 1 ∨ f.kind = 2 ∨ f.kind = 3 ∨ f.kind = 4 ∨ (f.kind ≠ 1 ∧ f.kind ≠ 2 ∧ f.kind ≠ 3 ∧ f.kind ≠ 4) by omega) with h | h | h | h | h <;> simp_all [rightF, emp] <;> (intros; omega)) | (simp_all [rightF, emp] <;> (intros; omega)))
      · -- guard no
       refine vn ?_
       refine vn ?_
       refine vn ?_
       refine vn ?_
       refine vy a_pick ?_
       refine vy a_move ?_
       first | refine vy (a_fr (hf := T.fo_27_1)) ?_ | refine vy (a_fa (hf := T.fo_27_1)) ?_
       first | refine vy (k_ldr T.ts_3) ?_ | refine vy (k_lda T.ts_3) ?_
       refine vy (a_bin (hr := by first | exact pr_eql | exact pr_eqs | exact pr_eqb Try.underlying3)) ?_
       refine vy a_move ?_
       refine vb 90 (fun hg17 => ?_) (fun hg17 => ?_)
       · -- guard yes
        first | refine vy (a_fr (hf := T.fo_27_2)) ?_ | refine vy (a_fa (hf := T.fo_27_2)) ?_
        first | refine vy (k_ldr T.ts_9) ?_ | refine vy (k_lda T.ts_9) ?_
        refine vy (a_bin (hr := by first | exact pr_eql | exact pr_eqs | exact pr_eqb Try.underlying9)) ?_
        refine vy a_pick ?_
        refine vy a_pick ?_
        refine vy a_assign ?_
        refine vl_nil ?_
        refine vc_ret ?_
        refine fin ?_
        simp only [fitsL, fits, C.asD, and_true]
        all_goals (refine scb ?_; first | (refine (rightF_bare ?_ ?_ ?_).symm <;> (simp only [decide_eq_true_eq, decide_eq_false_iff_not, Bool.not_eq_true', Bool.not_eq_false', Bool.and_eq_true, Bool.or_eq_true, Bool.or_eq_false_iff, Bool.and_eq_false_iff, beq_iff_eq, beq_eq_false_iff_ne, ne_eq, Bool.not_true, Bool.not_false, Bool.false_eq_true, Bool.true_eq_false] at * <;> omega); done) | (have hno := cases_no hp (by simp_all); simp_all [rightF]; done) | (have hC := okC_end (past_end (by assumption)) hi; clear hi; have h1 : f.deft ∈ f.cases → 0 < f.cases.length := List.length_pos_of_mem; by_cases hm : f.deft ∈ f.cases <;> simp_all [rightF, casesB] <;> omega) | (simp_all [rightF]; done) | (rw [Bool.eq_iff_iff]; simp_all [rightF, emp] <;> omega) | (rcases (show f.kind = 1 ∨ f.kind = 2 ∨ f.kind = 3 ∨ f.kind = 4 ∨ (f.kind ≠ 1 ∧ f.kind ≠ 2 ∧ f.kind ≠ 3 ∧ f.kind ≠ 4) by omega) with h | h | h | h | h <;> simp_all [rightF, emp] <;> (intros; omega)) | (simp_all [rightF, emp] <;> (intros; omega)))
       · -- guard no
        refine vn ?_
        refine vn ?_
        refine vn ?_
        refine vy a_pick ?_
        refine vy a_pick ?_
        refine vy a_assign ?_
        refine vl_nil ?_
        refine vc_ret ?_
        refine fin ?_
        simp only [fitsL, fits, C.asD, and_true]
        all_goals (refine scb ?_; first | (refine (rightF_bare ?_ ?_ ?_).symm <;> (simp only [decide_eq_true_eq, decide_eq_false_iff_not, Bool.not_eq_true', Bool.not_eq_false', Bool.and_eq_true, Bool.or_eq_true, Bool.or_eq_false_iff, Bool.and_eq_false_iff, beq_iff_eq, beq_eq_false_iff_ne, ne_eq, Bool.not_true, Bool.not_false, Bool.false_eq_true, Bool.true_eq_false] at * <;> omega); done) | (have hno := cases_no hp (by simp_all); simp_all [rightF]; done) | (have hC := okC_end (past_end (by assumption)) hi; clear hi; have h1 : f.deft ∈ f.cases → 0 < f.cases.length := List.length_pos_of_mem; by_cases hm : f.deft ∈ f.cases <;> simp_all [rightF, casesB] <;> omega) | (simp_all [rightF]; done) | (rw [Bool.eq_iff_iff]; simp_all [rightF, emp] <;> omega) | (rcases (show f.kind = 1 ∨ f.kind = 2 ∨ f.kind = 3 ∨ f.kind = 4 ∨ (f.kind ≠ 1 ∧ f.kind ≠ 2 ∧ f.kind ≠ 3 ∧ f.kind ≠ 4) by omega) with h | h | h | h | h <;> simp_all [rightF, emp] <;> (intros; omega)) | (simp_all [rightF, emp] <;> (intros; omega)))
end Go.Vm
