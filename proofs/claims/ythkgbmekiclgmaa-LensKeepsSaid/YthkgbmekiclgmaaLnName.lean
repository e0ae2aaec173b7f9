/- The walks of names. Printed by lens_field.py. -/
import Derived.Test.YthkgbmekiclgmaaLnK
import Derived.Test.YthkgbmekiclgmaaTypes
namespace Go.Vm
open Go.RowKit Go.Proofs
set_option linter.unusedVariables false
set_option linter.unusedSimpArgs false
set_option maxRecDepth 10000

theorem emp : ByteArray.empty = noB := rfl
theorem scb {a b : Bool} (h : a = b) : D.sc (.bool a) = D.sc (.bool b) := by rw [h]

set_option maxHeartbeats 1000000 in
theorem name_any (s : ByteArray) : Contract Try.prog 89 [.sc (.string s)] [.d (.sc (.bool (nameB s)))] := by
 refine fn_of (N := 50) [.tmp 2] Try.func89 ?_
 simp only [envUp, Nat.zero_add, Nat.reduceAdd]
 refine vc_then ?_
 refine vc_region ?_
 refine vy a_assign ?_
 refine vl_nil ?_
 refine vc_then ?_
 refine vc_then ?_
 refine vc_region ?_
 refine vy a_move ?_
 refine vy (a_lens (hT := T.us_9)) ?_
 refine vy (a_bin (hr := by first | exact pr_lss | exact pr_lts)) ?_
 refine vy a_move ?_
 refine vb 9 (fun hg1 => ?_) (fun hg1 => ?_)
 · -- guard yes
  refine vn ?_
  refine vn ?_
  refine vn ?_
  refine vy a_pick ?_
  refine vl_nil ?_
  refine vif (fun hc2 => ?_) (fun hc2 => ?_)
  · -- yes
   refine vc_then ?_
   refine vc_region ?_
   refine vy a_assign ?_
   refine vl_nil ?_
   refine vc_ret ?_
   refine fin ?_
   simp only [fitsL, fits, C.asD, and_true]
   all_goals (refine scb ?_; first | (refine (name_short ?_).symm; (simp only [decide_eq_true_eq, decide_eq_false_iff_not, Bool.not_eq_true', Bool.not_eq_false', Bool.and_eq_true, Bool.or_eq_true, Bool.or_eq_false_iff, Bool.and_eq_false_iff, beq_iff_eq, beq_eq_false_iff_ne, ne_eq, Bool.not_true, Bool.not_false, Bool.false_eq_true, Bool.true_eq_false] at * <;> omega); done) | (refine (name_long ?_).symm; (simp only [decide_eq_true_eq, decide_eq_false_iff_not, Bool.not_eq_true', Bool.not_eq_false', Bool.and_eq_true, Bool.or_eq_true, Bool.or_eq_false_iff, Bool.and_eq_false_iff, beq_iff_eq, beq_eq_false_iff_ne, ne_eq, Bool.not_true, Bool.not_false, Bool.false_eq_true, Bool.true_eq_false] at * <;> omega); done) | (refine (name_no (char_lt hb) hb ?_).symm; (simp only [charB, decide_eq_true_eq, decide_eq_false_iff_not, Bool.not_eq_true', Bool.not_eq_false', Bool.and_eq_true, Bool.or_eq_true, Bool.or_eq_false_iff, Bool.and_eq_false_iff, beq_iff_eq, beq_eq_false_iff_ne, ne_eq, Bool.not_true, Bool.not_false, Bool.false_eq_true, Bool.true_eq_false] at * <;> omega); done) | (refine (name_yes hlo hhi ?_ hok).symm; (simp only [decide_eq_true_eq, decide_eq_false_iff_not, Bool.not_eq_true', Bool.not_eq_false', Bool.and_eq_true, Bool.or_eq_true, Bool.or_eq_false_iff, Bool.and_eq_false_iff, beq_iff_eq, beq_eq_false_iff_ne, ne_eq, Bool.not_true, Bool.not_false, Bool.false_eq_true, Bool.true_eq_false] at * <;> omega); done))
  · -- no
   first | (exfalso; have hdead := hc2; simp at hdead <;> omega) | (exfalso; simp_all; done)
 · -- guard no
  refine vy a_move ?_
  refine vy (a_lens (hT := T.us_9)) ?_
  refine vy (a_bin (hr := by first | exact pr_gtr)) ?_
  refine vy a_pick ?_
  refine vl_nil ?_
  refine vif (fun hc3 => ?_) (fun hc3 => ?_)
  · -- yes
   refine vc_then ?_
   refine vc_region ?_
   refine vy a_assign ?_
   refine vl_nil ?_
   refine vc_ret ?_
   refine fin ?_
   simp only [fitsL, fits, C.asD, and_true]
   all_goals (refine scb ?_; first | (refine (name_short ?_).symm; (simp only [decide_eq_true_eq, decide_eq_false_iff_not, Bool.not_eq_true', Bool.not_eq_false', Bool.and_eq_true, Bool.or_eq_true, Bool.or_eq_false_iff, Bool.and_eq_false_iff, beq_iff_eq, beq_eq_false_iff_ne, ne_eq, Bool.not_true, Bool.not_false, Bool.false_eq_true, Bool.true_eq_false] at * <;> omega); done) | (refine (name_long ?_).symm; (simp only [decide_eq_true_eq, decide_eq_false_iff_not, Bool.not_eq_true', Bool.not_eq_false', Bool.and_eq_true, Bool.or_eq_true, Bool.or_eq_false_iff, Bool.and_eq_false_iff, beq_iff_eq, beq_eq_false_iff_ne, ne_eq, Bool.not_true, Bool.not_false, Bool.false_eq_true, Bool.true_eq_false] at * <;> omega); done) | (refine (name_no (char_lt hb) hb ?_).symm; (simp only [charB, decide_eq_true_eq, decide_eq_false_iff_not, Bool.not_eq_true', Bool.not_eq_false', Bool.and_eq_true, Bool.or_eq_true, Bool.or_eq_false_iff, Bool.and_eq_false_iff, beq_iff_eq, beq_eq_false_iff_ne, ne_eq, Bool.not_true, Bool.not_false, Bool.false_eq_true, Bool.true_eq_false] at * <;> omega); done) | (refine (name_yes hlo hhi ?_ hok).symm; (simp only [decide_eq_true_eq, decide_eq_false_iff_not, Bool.not_eq_true', Bool.not_eq_false', Bool.and_eq_true, Bool.or_eq_true, Bool.or_eq_false_iff, Bool.and_eq_false_iff, beq_iff_eq, beq_eq_false_iff_ne, ne_eq, Bool.not_true, Bool.not_false, Bool.false_eq_true, Bool.true_eq_false] at * <;> omega); done))
  · -- no
   have hlo : 1 ≤ s.size := by (simp only [decide_eq_true_eq, decide_eq_false_iff_not, Bool.not_eq_true', Bool.not_eq_false', Bool.and_eq_true, Bool.or_eq_true, Bool.or_eq_false_iff, Bool.and_eq_false_iff, beq_iff_eq, beq_eq_false_iff_ne, ne_eq, Bool.not_true, Bool.not_false, Bool.false_eq_true, Bool.true_eq_false] at * <;> omega)
   have hhi : s.size ≤ 12 := by (simp only [decide_eq_true_eq, decide_eq_false_iff_not, Bool.not_eq_true', Bool.not_eq_false', Bool.and_eq_true, Bool.or_eq_true, Bool.or_eq_false_iff, Bool.and_eq_false_iff, beq_iff_eq, beq_eq_false_iff_ne, ne_eq, Bool.not_true, Bool.not_false, Bool.false_eq_true, Bool.true_eq_false] at * <;> omega)
   refine vc_skip ?_
   refine vc_then ?_
   refine vc_then ?_
   refine vc_region ?_
   refine vy a_move ?_
   refine vy (a_lens (hT := T.us_9)) ?_
   refine vy a_move ?_
   refine vl_nil ?_
   refine vc_block ?_
   refine vc_loop (fun n env => ∃ k : Nat, (k ≤ s.size ∧ okTo s k ∧ 1 ≤ s.size ∧ s.size ≤ 12) ∧ n = s.size - k ∧ Sub (upd (upd (upd (noEnv) (some 0) (.c (.d (.sc (.string s))))) (some 15) (.c (.d (.sc (.int .i64 (s.size)))))) (some 16) (.c (.d (.sc (.int .i64 ((k : Nat))))))) env) (n := s.size - 0) ?_ ?_
   · --
    refine ⟨0, ⟨Nat.zero_le _, okTo_zero s, hlo, hhi⟩, rfl, ?_⟩
    repeat (first | exact sub_no _ | refine su ?_)
   · --
    rintro n env ⟨k, ⟨hk, hok, hlo, hhi⟩, rfl, hsub⟩
    refine vc_sub hsub ?_
    clear hsub env
    refine vc_then ?_
    refine vc_region ?_
    refine vy (a_bin (hr := by first | exact pr_lss | exact pr_lts)) ?_
    refine vl_nil ?_
    refine vc_then ?_
    refine vif (fun hc4 => ?_) (fun hc4 => ?_)
    · -- yes
     obtain ⟨b, hb⟩ := char_at hc4
     refine vc_skip ?_
     refine vc_then ?_
     refine vc_block ?_
     refine vc_then ?_
     refine vc_region ?_
     refine vy a_move ?_
     refine vy a_assign ?_
     refine vl_nil ?_
     refine vc_then ?_
     refine vc_region ?_
     refine vy a_move ?_
     refine vy a_move ?_
     refine vy (a_char (hT := T.us_9) (h0 := by first | omega | decide) (hb := by exact char_ix hb)) ?_
     refine vy (a_bin (hr := by first | exact pr_geq)) ?_
     refine vy a_move ?_
     refine vb 23 (fun hg5 => ?_) (fun hg5 => ?_)
     · -- guard yes
      refine vy a_move ?_
      refine vy a_move ?_
      refine vy (a_char (hT := T.us_9) (h0 := by first | omega | decide) (hb := by exact char_ix hb)) ?_
      refine vy (a_bin (hr := by first | exact pr_leq)) ?_
      refine vy a_pick ?_
      refine vy a_assign ?_
      refine vl_nil ?_
      refine vc_then ?_
      refine vc_region ?_
      refine vy a_move ?_
      refine vy a_move ?_
      refine vy (a_char (hT := T.us_9) (h0 := by first | omega | decide) (hb := by exact char_ix hb)) ?_
      refine vy (a_bin (hr := by first | exact pr_geq)) ?_
      refine vy a_move ?_
      refine vb 33 (fun hg6 => ?_) (fun hg6 => ?_)
      · -- guard yes
       refine vy a_move ?_
       refine vy a_move ?_
       refine vy (a_char (hT := T.us_9) (h0 := by first | omega | decide) (hb := by exact char_ix hb)) ?_
       refine vy (a_bin (hr := by first | exact pr_leq)) ?_
       refine vy a_pick ?_
       refine vy a_assign ?_
       refine vl_nil ?_
       refine vc_then ?_
       refine vc_region ?_
       refine vy a_move ?_
       refine vy a_not ?_
       refine vy a_move ?_
       refine vb 41 (fun hg7 => ?_) (fun hg7 => ?_)
       · -- guard yes
        refine vy a_move ?_
        refine vy a_not ?_
        refine vy a_move ?_
        refine vb 44 (fun hg8 => ?_) (fun hg8 => ?_)
        · -- guard yes
         refine vn ?_
         refine vn ?_
         refine vy a_pick ?_
         refine vy a_pick ?_
         refine vl_nil ?_
         refine vif (fun hc9 => ?_) (fun hc9 => ?_)
         · -- yes
          refine vc_then ?_
          refine vc_region ?_
          refine vy a_assign ?_
          refine vl_nil ?_
          refine vc_ret ?_
          refine fin ?_
          simp only [fitsL, fits, C.asD, and_true]
          all_goals (refine scb ?_; first | (refine (name_short ?_).symm; (simp only [decide_eq_true_eq, decide_eq_false_iff_not, Bool.not_eq_true', Bool.not_eq_false', Bool.and_eq_true, Bool.or_eq_true, Bool.or_eq_false_iff, Bool.and_eq_false_iff, beq_iff_eq, beq_eq_false_iff_ne, ne_eq, Bool.not_true, Bool.not_false, Bool.false_eq_true, Bool.true_eq_false] at * <;> omega); done) | (refine (name_long ?_).symm; (simp only [decide_eq_true_eq, decide_eq_false_iff_not, Bool.not_eq_true', Bool.not_eq_false', Bool.and_eq_true, Bool.or_eq_true, Bool.or_eq_false_iff, Bool.and_eq_false_iff, beq_iff_eq, beq_eq_false_iff_ne, ne_eq, Bool.not_true, Bool.not_false, Bool.false_eq_true, Bool.true_eq_false] at * <;> omega); done) | (refine (name_no (char_lt hb) hb ?_).symm; (simp only [charB, decide_eq_true_eq, decide_eq_false_iff_not, Bool.not_eq_true', Bool.not_eq_false', Bool.and_eq_true, Bool.or_eq_true, Bool.or_eq_false_iff, Bool.and_eq_false_iff, beq_iff_eq, beq_eq_false_iff_ne, ne_eq, Bool.not_true, Bool.not_false, Bool.false_eq_true, Bool.true_eq_false] at * <;> omega); done) | (refine (name_yes hlo hhi ?_ hok).symm; (simp only [decide_eq_true_eq, decide_eq_false_iff_not, Bool.not_eq_true', Bool.not_eq_false', Bool.and_eq_true, Bool.or_eq_true, Bool.or_eq_false_iff, Bool.and_eq_false_iff, beq_iff_eq, beq_eq_false_iff_ne, ne_eq, Bool.not_true, Bool.not_false, Bool.false_eq_true, Bool.true_eq_false] at * <;> omega); done))
         · -- no
          first | (exfalso; have hdead := hc9; simp at hdead <;> omega) | (exfalso; simp_all; done)
        · -- guard no
         refine vy a_move ?_
         refine vy (a_bin (hr := by first | exact pr_eql | exact pr_eqs | exact pr_eqb Try.underlying3)) ?_
         refine vy a_pick ?_
         refine vy a_pick ?_
         refine vl_nil ?_
         refine vif (fun hc10 => ?_) (fun hc10 => ?_)
         · -- yes
          refine vc_then ?_
          refine vc_region ?_
          refine vy a_assign ?_
          refine vl_nil ?_
          refine vc_ret ?_
          refine fin ?_
          simp only [fitsL, fits, C.asD, and_true]
          all_goals (refine scb ?_; first | (refine (name_short ?_).symm; (simp only [decide_eq_true_eq, decide_eq_false_iff_not, Bool.not_eq_true', Bool.not_eq_false', Bool.and_eq_true, Bool.or_eq_true, Bool.or_eq_false_iff, Bool.and_eq_false_iff, beq_iff_eq, beq_eq_false_iff_ne, ne_eq, Bool.not_true, Bool.not_false, Bool.false_eq_true, Bool.true_eq_false] at * <;> omega); done) | (refine (name_long ?_).symm; (simp only [decide_eq_true_eq, decide_eq_false_iff_not, Bool.not_eq_true', Bool.not_eq_false', Bool.and_eq_true, Bool.or_eq_true, Bool.or_eq_false_iff, Bool.and_eq_false_iff, beq_iff_eq, beq_eq_false_iff_ne, ne_eq, Bool.not_true, Bool.not_false, Bool.false_eq_true, Bool.true_eq_false] at * <;> omega); done) | (refine (name_no (char_lt hb) hb ?_).symm; (simp only [charB, decide_eq_true_eq, decide_eq_false_iff_not, Bool.not_eq_true', Bool.not_eq_false', Bool.and_eq_true, Bool.or_eq_true, Bool.or_eq_false_iff, Bool.and_eq_false_iff, beq_iff_eq, beq_eq_false_iff_ne, ne_eq, Bool.not_true, Bool.not_false, Bool.false_eq_true, Bool.true_eq_false] at * <;> omega); done) | (refine (name_yes hlo hhi ?_ hok).symm; (simp only [decide_eq_true_eq, decide_eq_false_iff_not, Bool.not_eq_true', Bool.not_eq_false', Bool.and_eq_true, Bool.or_eq_true, Bool.or_eq_false_iff, Bool.and_eq_false_iff, beq_iff_eq, beq_eq_false_iff_ne, ne_eq, Bool.not_true, Bool.not_false, Bool.false_eq_true, Bool.true_eq_false] at * <;> omega); done))
         · -- no
          refine vc_skip ?_
          refine vc_region ?_
          refine vy (a_bin (hr := by first | exact pr_add (by first | exact wrap64 _ (by (first | omega | (simp only [List.length_map, List.length_append, List.length_nil, List.length_cons]; omega))) | rfl) | exact pr_cat (by (first | omega | (simp only [List.length_map, List.length_append, List.length_nil, List.length_cons]; omega))))) ?_
          refine vy a_move ?_
          refine vl_nil ?_
          refine ⟨_, ?_, k + 1, ⟨char_lt hb, okTo_next hok hb (by (simp only [charB, decide_eq_true_eq, decide_eq_false_iff_not, Bool.not_eq_true', Bool.not_eq_false', Bool.and_eq_true, Bool.or_eq_true, Bool.or_eq_false_iff, Bool.and_eq_false_iff, beq_iff_eq, beq_eq_false_iff_ne, ne_eq, Bool.not_true, Bool.not_false, Bool.false_eq_true, Bool.true_eq_false] at * <;> omega)), hlo, hhi⟩, rfl, ?_⟩
          · --
           have := char_lt hb; omega
          · --
           repeat (first | exact sub_no _ | refine su ?_)
       · -- guard no
        refine vn ?_
        refine vn ?_
        refine vn ?_
        refine vn ?_
        refine vn ?_
        refine vn ?_
        refine vy a_pick ?_
        refine vl_nil ?_
        refine vif (fun hc11 => ?_) (fun hc11 => ?_)
        · -- yes
         first | (exfalso; have hdead := hc11; simp at hdead <;> omega) | (exfalso; simp_all; done)
        · -- no
         refine vc_skip ?_
         refine vc_region ?_
         refine vy (a_bin (hr := by first | exact pr_add (by first | exact wrap64 _ (by (first | omega | (simp only [List.length_map, List.length_append, List.length_nil, List.length_cons]; omega))) | rfl) | exact pr_cat (by (first | omega | (simp only [List.length_map, List.length_append, List.length_nil, List.length_cons]; omega))))) ?_
         refine vy a_move ?_
         refine vl_nil ?_
         refine ⟨_, ?_, k + 1, ⟨char_lt hb, okTo_next hok hb (by (simp only [charB, decide_eq_true_eq, decide_eq_false_iff_not, Bool.not_eq_true', Bool.not_eq_false', Bool.and_eq_true, Bool.or_eq_true, Bool.or_eq_false_iff, Bool.and_eq_false_iff, beq_iff_eq, beq_eq_false_iff_ne, ne_eq, Bool.not_true, Bool.not_false, Bool.false_eq_true, Bool.true_eq_false] at * <;> omega)), hlo, hhi⟩, rfl, ?_⟩
         · --
          have := char_lt hb; omega
         · --
          repeat (first | exact sub_no _ | refine su ?_)
      · -- guard no
       refine vn ?_
       refine vn ?_
       refine vn ?_
       refine vn ?_
       refine vy a_pick ?_
       refine vy a_assign ?_
       refine vl_nil ?_
       refine vc_then ?_
       refine vc_region ?_
       refine vy a_move ?_
       refine vy a_not ?_
       refine vy a_move ?_
       refine vb 41 (fun hg12 => ?_) (fun hg12 => ?_)
       · -- guard yes
        refine vy a_move ?_
        refine vy a_not ?_
        refine vy a_move ?_
        refine vn ?_
        refine vn ?_
        refine vy a_pick ?_
        refine vy a_pick ?_
        refine vl_nil ?_
        refine vif (fun hc13 => ?_) (fun hc13 => ?_)
        · -- yes
         refine vc_then ?_
         refine vc_region ?_
         refine vy a_assign ?_
         refine vl_nil ?_
         refine vc_ret ?_
         refine fin ?_
         simp only [fitsL, fits, C.asD, and_true]
         all_goals (refine scb ?_; first | (refine (name_short ?_).symm; (simp only [decide_eq_true_eq, decide_eq_false_iff_not, Bool.not_eq_true', Bool.not_eq_false', Bool.and_eq_true, Bool.or_eq_true, Bool.or_eq_false_iff, Bool.and_eq_false_iff, beq_iff_eq, beq_eq_false_iff_ne, ne_eq, Bool.not_true, Bool.not_false, Bool.false_eq_true, Bool.true_eq_false] at * <;> omega); done) | (refine (name_long ?_).symm; (simp only [decide_eq_true_eq, decide_eq_false_iff_not, Bool.not_eq_true', Bool.not_eq_false', Bool.and_eq_true, Bool.or_eq_true, Bool.or_eq_false_iff, Bool.and_eq_false_iff, beq_iff_eq, beq_eq_false_iff_ne, ne_eq, Bool.not_true, Bool.not_false, Bool.false_eq_true, Bool.true_eq_false] at * <;> omega); done) | (refine (name_no (char_lt hb) hb ?_).symm; (simp only [charB, decide_eq_true_eq, decide_eq_false_iff_not, Bool.not_eq_true', Bool.not_eq_false', Bool.and_eq_true, Bool.or_eq_true, Bool.or_eq_false_iff, Bool.and_eq_false_iff, beq_iff_eq, beq_eq_false_iff_ne, ne_eq, Bool.not_true, Bool.not_false, Bool.false_eq_true, Bool.true_eq_false] at * <;> omega); done) | (refine (name_yes hlo hhi ?_ hok).symm; (simp only [decide_eq_true_eq, decide_eq_false_iff_not, Bool.not_eq_true', Bool.not_eq_false', Bool.and_eq_true, Bool.or_eq_true, Bool.or_eq_false_iff, Bool.and_eq_false_iff, beq_iff_eq, beq_eq_false_iff_ne, ne_eq, Bool.not_true, Bool.not_false, Bool.false_eq_true, Bool.true_eq_false] at * <;> omega); done))
        · -- no
         first | (exfalso; have hdead := hc13; simp at hdead <;> omega) | (exfalso; simp_all; done)
       · -- guard no
        refine vn ?_
        refine vn ?_
        refine vn ?_
        refine vn ?_
        refine vn ?_
        refine vn ?_
        refine vy a_pick ?_
        refine vl_nil ?_
        refine vif (fun hc14 => ?_) (fun hc14 => ?_)
        · -- yes
         first | (exfalso; have hdead := hc14; simp at hdead <;> omega) | (exfalso; simp_all; done)
        · -- no
         refine vc_skip ?_
         refine vc_region ?_
         refine vy (a_bin (hr := by first | exact pr_add (by first | exact wrap64 _ (by (first | omega | (simp only [List.length_map, List.length_append, List.length_nil, List.length_cons]; omega))) | rfl) | exact pr_cat (by (first | omega | (simp only [List.length_map, List.length_append, List.length_nil, List.length_cons]; omega))))) ?_
         refine vy a_move ?_
         refine vl_nil ?_
         refine ⟨_, ?_, k + 1, ⟨char_lt hb, okTo_next hok hb (by (simp only [charB, decide_eq_true_eq, decide_eq_false_iff_not, Bool.not_eq_true', Bool.not_eq_false', Bool.and_eq_true, Bool.or_eq_true, Bool.or_eq_false_iff, Bool.and_eq_false_iff, beq_iff_eq, beq_eq_false_iff_ne, ne_eq, Bool.not_true, Bool.not_false, Bool.false_eq_true, Bool.true_eq_false] at * <;> omega)), hlo, hhi⟩, rfl, ?_⟩
         · --
          have := char_lt hb; omega
         · --
          repeat (first | exact sub_no _ | refine su ?_)
     · -- guard no
      refine vn ?_
      refine vn ?_
      refine vn ?_
      refine vn ?_
      refine vy a_pick ?_
      refine vy a_assign ?_
      refine vl_nil ?_
      refine vc_then ?_
      refine vc_region ?_
      refine vy a_move ?_
      refine vy a_move ?_
      refine vy (a_char (hT := T.us_9) (h0 := by first | omega | decide) (hb := by exact char_ix hb)) ?_
      refine vy (a_bin (hr := by first | exact pr_geq)) ?_
      refine vy a_move ?_
      refine vb 33 (fun hg15 => ?_) (fun hg15 => ?_)
      · -- guard yes
       refine vy a_move ?_
       refine vy a_move ?_
       refine vy (a_char (hT := T.us_9) (h0 := by first | omega | decide) (hb := by exact char_ix hb)) ?_
       refine vy (a_bin (hr := by first | exact pr_leq)) ?_
       refine vy a_pick ?_
       refine vy a_assign ?_
       refine vl_nil ?_
       refine vc_then ?_
       refine vc_region ?_
       refine vy a_move ?_
       refine vy a_not ?_
       refine vy a_move ?_
       refine vy a_move ?_
       refine vy a_not ?_
       refine vy a_move ?_
       refine vb 44 (fun hg16 => ?_) (fun hg16 => ?_)
       · -- guard yes
        refine vn ?_
        refine vn ?_
        refine vy a_pick ?_
        refine vy a_pick ?_
        refine vl_nil ?_
        refine vif (fun hc17 => ?_) (fun hc17 => ?_)
        · -- yes
         refine vc_then ?_
         refine vc_region ?_
         refine vy a_assign ?_
         refine vl_nil ?_
         refine vc_ret ?_
         refine fin ?_
         simp only [fitsL, fits, C.asD, and_true]
         all_goals (refine scb ?_; first | (refine (name_short ?_).symm; (simp only [decide_eq_true_eq, decide_eq_false_iff_not, Bool.not_eq_true', Bool.not_eq_false', Bool.and_eq_true, Bool.or_eq_true, Bool.or_eq_false_iff, Bool.and_eq_false_iff, beq_iff_eq, beq_eq_false_iff_ne, ne_eq, Bool.not_true, Bool.not_false, Bool.false_eq_true, Bool.true_eq_false] at * <;> omega); done) | (refine (name_long ?_).symm; (simp only [decide_eq_true_eq, decide_eq_false_iff_not, Bool.not_eq_true', Bool.not_eq_false', Bool.and_eq_true, Bool.or_eq_true, Bool.or_eq_false_iff, Bool.and_eq_false_iff, beq_iff_eq, beq_eq_false_iff_ne, ne_eq, Bool.not_true, Bool.not_false, Bool.false_eq_true, Bool.true_eq_false] at * <;> omega); done) | (refine (name_no (char_lt hb) hb ?_).symm; (simp only [charB, decide_eq_true_eq, decide_eq_false_iff_not, Bool.not_eq_true', Bool.not_eq_false', Bool.and_eq_true, Bool.or_eq_true, Bool.or_eq_false_iff, Bool.and_eq_false_iff, beq_iff_eq, beq_eq_false_iff_ne, ne_eq, Bool.not_true, Bool.not_false, Bool.false_eq_true, Bool.true_eq_false] at * <;> omega); done) | (refine (name_yes hlo hhi ?_ hok).symm; (simp only [decide_eq_true_eq, decide_eq_false_iff_not, Bool.not_eq_true', Bool.not_eq_false', Bool.and_eq_true, Bool.or_eq_true, Bool.or_eq_false_iff, Bool.and_eq_false_iff, beq_iff_eq, beq_eq_false_iff_ne, ne_eq, Bool.not_true, Bool.not_false, Bool.false_eq_true, Bool.true_eq_false] at * <;> omega); done))
        · -- no
         first | (exfalso; have hdead := hc17; simp at hdead <;> omega) | (exfalso; simp_all; done)
       · -- guard no
        refine vy a_move ?_
        refine vy (a_bin (hr := by first | exact pr_eql | exact pr_eqs | exact pr_eqb Try.underlying3)) ?_
        refine vy a_pick ?_
        refine vy a_pick ?_
        refine vl_nil ?_
        refine vif (fun hc18 => ?_) (fun hc18 => ?_)
        · -- yes
         refine vc_then ?_
         refine vc_region ?_
         refine vy a_assign ?_
         refine vl_nil ?_
         refine vc_ret ?_
         refine fin ?_
         simp only [fitsL, fits, C.asD, and_true]
         all_goals (refine scb ?_; first | (refine (name_short ?_).symm; (simp only [decide_eq_true_eq, decide_eq_false_iff_not, Bool.not_eq_true', Bool.not_eq_false', Bool.and_eq_true, Bool.or_eq_true, Bool.or_eq_false_iff, Bool.and_eq_false_iff, beq_iff_eq, beq_eq_false_iff_ne, ne_eq, Bool.not_true, Bool.not_false, Bool.false_eq_true, Bool.true_eq_false] at * <;> omega); done) | (refine (name_long ?_).symm; (simp only [decide_eq_true_eq, decide_eq_false_iff_not, Bool.not_eq_true', Bool.not_eq_false', Bool.and_eq_true, Bool.or_eq_true, Bool.or_eq_false_iff, Bool.and_eq_false_iff, beq_iff_eq, beq_eq_false_iff_ne, ne_eq, Bool.not_true, Bool.not_false, Bool.false_eq_true, Bool.true_eq_false] at * <;> omega); done) | (refine (name_no (char_lt hb) hb ?_).symm; (simp only [charB, decide_eq_true_eq, decide_eq_false_iff_not, Bool.not_eq_true', Bool.not_eq_false', Bool.and_eq_true, Bool.or_eq_true, Bool.or_eq_false_iff, Bool.and_eq_false_iff, beq_iff_eq, beq_eq_false_iff_ne, ne_eq, Bool.not_true, Bool.not_false, Bool.false_eq_true, Bool.true_eq_false] at * <;> omega); done) | (refine (name_yes hlo hhi ?_ hok).symm; (simp only [decide_eq_true_eq, decide_eq_false_iff_not, Bool.not_eq_true', Bool.not_eq_false', Bool.and_eq_true, Bool.or_eq_true, Bool.or_eq_false_iff, Bool.and_eq_false_iff, beq_iff_eq, beq_eq_false_iff_ne, ne_eq, Bool.not_true, Bool.not_false, Bool.false_eq_true, Bool.true_eq_false] at * <;> omega); done))
        · -- no
         refine vc_skip ?_
         refine vc_region ?_
         refine vy (a_bin (hr := by first | exact pr_add (by first | exact wrap64 _ (by (first | omega | (simp only [List.length_map, List.length_append, List.length_nil, List.length_cons]; omega))) | rfl) | exact pr_cat (by (first | omega | (simp only [List.length_map, List.length_append, List.length_nil, List.length_cons]; omega))))) ?_
         refine vy a_move ?_
         refine vl_nil ?_
         refine ⟨_, ?_, k + 1, ⟨char_lt hb, okTo_next hok hb (by (simp only [charB, decide_eq_true_eq, decide_eq_false_iff_not, Bool.not_eq_true', Bool.not_eq_false', Bool.and_eq_true, Bool.or_eq_true, Bool.or_eq_false_iff, Bool.and_eq_false_iff, beq_iff_eq, beq_eq_false_iff_ne, ne_eq, Bool.not_true, Bool.not_false, Bool.false_eq_true, Bool.true_eq_false] at * <;> omega)), hlo, hhi⟩, rfl, ?_⟩
         · --
          have := char_lt hb; omega
         · --
          repeat (first | exact sub_no _ | refine su ?_)
      · -- guard no
       refine vn ?_
       refine vn ?_
       refine vn ?_
       refine vn ?_
       refine vy a_pick ?_
       refine vy a_assign ?_
       refine vl_nil ?_
       refine vc_then ?_
       refine vc_region ?_
       refine vy a_move ?_
       refine vy a_not ?_
       refine vy a_move ?_
       refine vy a_move ?_
       refine vy a_not ?_
       refine vy a_move ?_
       refine vn ?_
       refine vn ?_
       refine vy a_pick ?_
       refine vy a_pick ?_
       refine vl_nil ?_
       refine vif (fun hc19 => ?_) (fun hc19 => ?_)
       · -- yes
        refine vc_then ?_
        refine vc_region ?_
        refine vy a_assign ?_
        refine vl_nil ?_
        refine vc_ret ?_
        refine fin ?_
        simp only [fitsL, fits, C.asD, and_true]
        all_goals (refine scb ?_; first | (refine (name_short ?_).symm; (simp only [decide_eq_true_eq, decide_eq_false_iff_not, Bool.not_eq_true', Bool.not_eq_false', Bool.and_eq_true, Bool.or_eq_true, Bool.or_eq_false_iff, Bool.and_eq_false_iff, beq_iff_eq, beq_eq_false_iff_ne, ne_eq, Bool.not_true, Bool.not_false, Bool.false_eq_true, Bool.true_eq_false] at * <;> omega); done) | (refine (name_long ?_).symm; (simp only [decide_eq_true_eq, decide_eq_false_iff_not, Bool.not_eq_true', Bool.not_eq_false', Bool.and_eq_true, Bool.or_eq_true, Bool.or_eq_false_iff, Bool.and_eq_false_iff, beq_iff_eq, beq_eq_false_iff_ne, ne_eq, Bool.not_true, Bool.not_false, Bool.false_eq_true, Bool.true_eq_false] at * <;> omega); done) | (refine (name_no (char_lt hb) hb ?_).symm; (simp only [charB, decide_eq_true_eq, decide_eq_false_iff_not, Bool.not_eq_true', Bool.not_eq_false', Bool.and_eq_true, Bool.or_eq_true, Bool.or_eq_false_iff, Bool.and_eq_false_iff, beq_iff_eq, beq_eq_false_iff_ne, ne_eq, Bool.not_true, Bool.not_false, Bool.false_eq_true, Bool.true_eq_false] at * <;> omega); done) | (refine (name_yes hlo hhi ?_ hok).symm; (simp only [decide_eq_true_eq, decide_eq_false_iff_not, Bool.not_eq_true', Bool.not_eq_false', Bool.and_eq_true, Bool.or_eq_true, Bool.or_eq_false_iff, Bool.and_eq_false_iff, beq_iff_eq, beq_eq_false_iff_ne, ne_eq, Bool.not_true, Bool.not_false, Bool.false_eq_true, Bool.true_eq_false] at * <;> omega); done))
       · -- no
        first | (exfalso; have hdead := hc19; simp at hdead <;> omega) | (exfalso; simp_all; done)
    · -- no
     refine vc_exit ?_
     refine vc_then ?_
     refine vc_region ?_
     refine vy a_assign ?_
     refine vl_nil ?_
     refine vc_ret ?_
     refine fin ?_
     simp only [fitsL, fits, C.asD, and_true]
     all_goals (refine scb ?_; first | (refine (name_short ?_).symm; (simp only [decide_eq_true_eq, decide_eq_false_iff_not, Bool.not_eq_true', Bool.not_eq_false', Bool.and_eq_true, Bool.or_eq_true, Bool.or_eq_false_iff, Bool.and_eq_false_iff, beq_iff_eq, beq_eq_false_iff_ne, ne_eq, Bool.not_true, Bool.not_false, Bool.false_eq_true, Bool.true_eq_false] at * <;> omega); done) | (refine (name_long ?_).symm; (simp only [decide_eq_true_eq, decide_eq_false_iff_not, Bool.not_eq_true', Bool.not_eq_false', Bool.and_eq_true, Bool.or_eq_true, Bool.or_eq_false_iff, Bool.and_eq_false_iff, beq_iff_eq, beq_eq_false_iff_ne, ne_eq, Bool.not_true, Bool.not_false, Bool.false_eq_true, Bool.true_eq_false] at * <;> omega); done) | (refine (name_no (char_lt hb) hb ?_).symm; (simp only [charB, decide_eq_true_eq, decide_eq_false_iff_not, Bool.not_eq_true', Bool.not_eq_false', Bool.and_eq_true, Bool.or_eq_true, Bool.or_eq_false_iff, Bool.and_eq_false_iff, beq_iff_eq, beq_eq_false_iff_ne, ne_eq, Bool.not_true, Bool.not_false, Bool.false_eq_true, Bool.true_eq_false] at * <;> omega); done) | (refine (name_yes hlo hhi ?_ hok).symm; (simp only [decide_eq_true_eq, decide_eq_false_iff_not, Bool.not_eq_true', Bool.not_eq_false', Bool.and_eq_true, Bool.or_eq_true, Bool.or_eq_false_iff, Bool.and_eq_false_iff, beq_iff_eq, beq_eq_false_iff_ne, ne_eq, Bool.not_true, Bool.not_false, Bool.false_eq_true, Bool.true_eq_false] at * <;> omega); done))

set_option maxHeartbeats 1000000 in
theorem refName_any (s : ByteArray) : Contract Try.prog 86 [.sc (.string s)] [.d (.sc (.bool (nameB s)))] := by
 refine fn_of (N := 50) [.tmp 2] Try.func86 ?_
 simp only [envUp, Nat.zero_add, Nat.reduceAdd]
 refine vc_then ?_
 refine vc_region ?_
 refine vy a_assign ?_
 refine vl_nil ?_
 refine vc_then ?_
 refine vc_then ?_
 refine vc_region ?_
 refine vy a_move ?_
 refine vy (a_lens (hT := T.us_9)) ?_
 refine vy (a_bin (hr := by first | exact pr_lss | exact pr_lts)) ?_
 refine vy a_move ?_
 refine vb 9 (fun hg1 => ?_) (fun hg1 => ?_)
 · -- guard yes
  refine vn ?_
  refine vn ?_
  refine vn ?_
  refine vy a_pick ?_
  refine vl_nil ?_
  refine vif (fun hc2 => ?_) (fun hc2 => ?_)
  · -- yes
   refine vc_then ?_
   refine vc_region ?_
   refine vy a_assign ?_
   refine vl_nil ?_
   refine vc_ret ?_
   refine fin ?_
   simp only [fitsL, fits, C.asD, and_true]
   all_goals (refine scb ?_; first | (refine (name_short ?_).symm; (simp only [decide_eq_true_eq, decide_eq_false_iff_not, Bool.not_eq_true', Bool.not_eq_false', Bool.and_eq_true, Bool.or_eq_true, Bool.or_eq_false_iff, Bool.and_eq_false_iff, beq_iff_eq, beq_eq_false_iff_ne, ne_eq, Bool.not_true, Bool.not_false, Bool.false_eq_true, Bool.true_eq_false] at * <;> omega); done) | (refine (name_long ?_).symm; (simp only [decide_eq_true_eq, decide_eq_false_iff_not, Bool.not_eq_true', Bool.not_eq_false', Bool.and_eq_true, Bool.or_eq_true, Bool.or_eq_false_iff, Bool.and_eq_false_iff, beq_iff_eq, beq_eq_false_iff_ne, ne_eq, Bool.not_true, Bool.not_false, Bool.false_eq_true, Bool.true_eq_false] at * <;> omega); done) | (refine (name_no (char_lt hb) hb ?_).symm; (simp only [charB, decide_eq_true_eq, decide_eq_false_iff_not, Bool.not_eq_true', Bool.not_eq_false', Bool.and_eq_true, Bool.or_eq_true, Bool.or_eq_false_iff, Bool.and_eq_false_iff, beq_iff_eq, beq_eq_false_iff_ne, ne_eq, Bool.not_true, Bool.not_false, Bool.false_eq_true, Bool.true_eq_false] at * <;> omega); done) | (refine (name_yes hlo hhi ?_ hok).symm; (simp only [decide_eq_true_eq, decide_eq_false_iff_not, Bool.not_eq_true', Bool.not_eq_false', Bool.and_eq_true, Bool.or_eq_true, Bool.or_eq_false_iff, Bool.and_eq_false_iff, beq_iff_eq, beq_eq_false_iff_ne, ne_eq, Bool.not_true, Bool.not_false, Bool.false_eq_true, Bool.true_eq_false] at * <;> omega); done))
  · -- no
   first | (exfalso; have hdead := hc2; simp at hdead <;> omega) | (exfalso; simp_all; done)
 · -- guard no
  refine vy a_move ?_
  refine vy (a_lens (hT := T.us_9)) ?_
  refine vy (a_bin (hr := by first | exact pr_gtr)) ?_
  refine vy a_pick ?_
  refine vl_nil ?_
  refine vif (fun hc3 => ?_) (fun hc3 => ?_)
  · -- yes
   refine vc_then ?_
   refine vc_region ?_
   refine vy a_assign ?_
   refine vl_nil ?_
   refine vc_ret ?_
   refine fin ?_
   simp only [fitsL, fits, C.asD, and_true]
   all_goals (refine scb ?_; first | (refine (name_short ?_).symm; (simp only [decide_eq_true_eq, decide_eq_false_iff_not, Bool.not_eq_true', Bool.not_eq_false', Bool.and_eq_true, Bool.or_eq_true, Bool.or_eq_false_iff, Bool.and_eq_false_iff, beq_iff_eq, beq_eq_false_iff_ne, ne_eq, Bool.not_true, Bool.not_false, Bool.false_eq_true, Bool.true_eq_false] at * <;> omega); done) | (refine (name_long ?_).symm; (simp only [decide_eq_true_eq, decide_eq_false_iff_not, Bool.not_eq_true', Bool.not_eq_false', Bool.and_eq_true, Bool.or_eq_true, Bool.or_eq_false_iff, Bool.and_eq_false_iff, beq_iff_eq, beq_eq_false_iff_ne, ne_eq, Bool.not_true, Bool.not_false, Bool.false_eq_true, Bool.true_eq_false] at * <;> omega); done) | (refine (name_no (char_lt hb) hb ?_).symm; (simp only [charB, decide_eq_true_eq, decide_eq_false_iff_not, Bool.not_eq_true', Bool.not_eq_false', Bool.and_eq_true, Bool.or_eq_true, Bool.or_eq_false_iff, Bool.and_eq_false_iff, beq_iff_eq, beq_eq_false_iff_ne, ne_eq, Bool.not_true, Bool.not_false, Bool.false_eq_true, Bool.true_eq_false] at * <;> omega); done) | (refine (name_yes hlo hhi ?_ hok).symm; (simp only [decide_eq_true_eq, decide_eq_false_iff_not, Bool.not_eq_true', Bool.not_eq_false', Bool.and_eq_true, Bool.or_eq_true, Bool.or_eq_false_iff, Bool.and_eq_false_iff, beq_iff_eq, beq_eq_false_iff_ne, ne_eq, Bool.not_true, Bool.not_false, Bool.false_eq_true, Bool.true_eq_false] at * <;> omega); done))
  · -- no
   have hlo : 1 ≤ s.size := by (simp only [decide_eq_true_eq, decide_eq_false_iff_not, Bool.not_eq_true', Bool.not_eq_false', Bool.and_eq_true, Bool.or_eq_true, Bool.or_eq_false_iff, Bool.and_eq_false_iff, beq_iff_eq, beq_eq_false_iff_ne, ne_eq, Bool.not_true, Bool.not_false, Bool.false_eq_true, Bool.true_eq_false] at * <;> omega)
   have hhi : s.size ≤ 12 := by (simp only [decide_eq_true_eq, decide_eq_false_iff_not, Bool.not_eq_true', Bool.not_eq_false', Bool.and_eq_true, Bool.or_eq_true, Bool.or_eq_false_iff, Bool.and_eq_false_iff, beq_iff_eq, beq_eq_false_iff_ne, ne_eq, Bool.not_true, Bool.not_false, Bool.false_eq_true, Bool.true_eq_false] at * <;> omega)
   refine vc_skip ?_
   refine vc_then ?_
   refine vc_then ?_
   refine vc_region ?_
   refine vy a_assign ?_
   refine vl_nil ?_
   refine vc_block ?_
   refine vc_loop (fun n env => ∃ k : Nat, (k ≤ s.size ∧ okTo s k ∧ 1 ≤ s.size ∧ s.size ≤ 12) ∧ n = s.size - k ∧ Sub (upd (upd (noEnv) (some 0) (.c (.d (.sc (.string s))))) (some 3) (.c (.d (.sc (.int .i64 ((k : Nat))))))) env) (n := s.size - 0) ?_ ?_
   · --
    refine ⟨0, ⟨Nat.zero_le _, okTo_zero s, hlo, hhi⟩, rfl, ?_⟩
    repeat (first | exact sub_no _ | refine su ?_)
   · --
    rintro n env ⟨k, ⟨hk, hok, hlo, hhi⟩, rfl, hsub⟩
    refine vc_sub hsub ?_
    clear hsub env
    refine vc_then ?_
    refine vc_then ?_
    refine vc_region ?_
    refine vy a_move ?_
    refine vy a_move ?_
    refine vy (a_lens (hT := T.us_9)) ?_
    refine vy (a_bin (hr := by first | exact pr_lss | exact pr_lts)) ?_
    refine vl_nil ?_
    refine vif (fun hc4 => ?_) (fun hc4 => ?_)
    · -- yes
     obtain ⟨b, hb⟩ := char_at hc4
     refine vc_skip ?_
     refine vc_then ?_
     refine vc_block ?_
     refine vc_then ?_
     refine vc_region ?_
     refine vy a_move ?_
     refine vy a_move ?_
     refine vy (a_char (hT := T.us_9) (h0 := by first | omega | decide) (hb := by exact char_ix hb)) ?_
     refine vy (a_bin (hr := by first | exact pr_geq)) ?_
     refine vy a_move ?_
     refine vb 24 (fun hg5 => ?_) (fun hg5 => ?_)
     · -- guard yes
      refine vy a_move ?_
      refine vy a_move ?_
      refine vy (a_char (hT := T.us_9) (h0 := by first | omega | decide) (hb := by exact char_ix hb)) ?_
      refine vy (a_bin (hr := by first | exact pr_leq)) ?_
      refine vy a_pick ?_
      refine vy a_assign ?_
      refine vl_nil ?_
      refine vc_then ?_
      refine vc_region ?_
      refine vy a_move ?_
      refine vy a_move ?_
      refine vy (a_char (hT := T.us_9) (h0 := by first | omega | decide) (hb := by exact char_ix hb)) ?_
      refine vy (a_bin (hr := by first | exact pr_geq)) ?_
      refine vy a_move ?_
      refine vb 34 (fun hg6 => ?_) (fun hg6 => ?_)
      · -- guard yes
       refine vy a_move ?_
       refine vy a_move ?_
       refine vy (a_char (hT := T.us_9) (h0 := by first | omega | decide) (hb := by exact char_ix hb)) ?_
       refine vy (a_bin (hr := by first | exact pr_leq)) ?_
       refine vy a_pick ?_
       refine vy a_assign ?_
       refine vl_nil ?_
       refine vc_then ?_
       refine vc_region ?_
       refine vy a_move ?_
       refine vy a_not ?_
       refine vy a_move ?_
       refine vb 42 (fun hg7 => ?_) (fun hg7 => ?_)
       · -- guard yes
        refine vy a_move ?_
        refine vy a_not ?_
        refine vy a_move ?_
        refine vb 45 (fun hg8 => ?_) (fun hg8 => ?_)
        · -- guard yes
         refine vn ?_
         refine vn ?_
         refine vy a_pick ?_
         refine vy a_pick ?_
         refine vl_nil ?_
         refine vif (fun hc9 => ?_) (fun hc9 => ?_)
         · -- yes
          refine vc_then ?_
          refine vc_region ?_
          refine vy a_assign ?_
          refine vl_nil ?_
          refine vc_ret ?_
          refine fin ?_
          simp only [fitsL, fits, C.asD, and_true]
          all_goals (refine scb ?_; first | (refine (name_short ?_).symm; (simp only [decide_eq_true_eq, decide_eq_false_iff_not, Bool.not_eq_true', Bool.not_eq_false', Bool.and_eq_true, Bool.or_eq_true, Bool.or_eq_false_iff, Bool.and_eq_false_iff, beq_iff_eq, beq_eq_false_iff_ne, ne_eq, Bool.not_true, Bool.not_false, Bool.false_eq_true, Bool.true_eq_false] at * <;> omega); done) | (refine (name_long ?_).symm; (simp only [decide_eq_true_eq, decide_eq_false_iff_not, Bool.not_eq_true', Bool.not_eq_false', Bool.and_eq_true, Bool.or_eq_true, Bool.or_eq_false_iff, Bool.and_eq_false_iff, beq_iff_eq, beq_eq_false_iff_ne, ne_eq, Bool.not_true, Bool.not_false, Bool.false_eq_true, Bool.true_eq_false] at * <;> omega); done) | (refine (name_no (char_lt hb) hb ?_).symm; (simp only [charB, decide_eq_true_eq, decide_eq_false_iff_not, Bool.not_eq_true', Bool.not_eq_false', Bool.and_eq_true, Bool.or_eq_true, Bool.or_eq_false_iff, Bool.and_eq_false_iff, beq_iff_eq, beq_eq_false_iff_ne, ne_eq, Bool.not_true, Bool.not_false, Bool.false_eq_true, Bool.true_eq_false] at * <;> omega); done) | (refine (name_yes hlo hhi ?_ hok).symm; (simp only [decide_eq_true_eq, decide_eq_false_iff_not, Bool.not_eq_true', Bool.not_eq_false', Bool.and_eq_true, Bool.or_eq_true, Bool.or_eq_false_iff, Bool.and_eq_false_iff, beq_iff_eq, beq_eq_false_iff_ne, ne_eq, Bool.not_true, Bool.not_false, Bool.false_eq_true, Bool.true_eq_false] at * <;> omega); done))
         · -- no
          first | (exfalso; have hdead := hc9; simp at hdead <;> omega) | (exfalso; simp_all; done)
        · -- guard no
         refine vy a_move ?_
         refine vy (a_bin (hr := by first | exact pr_eql | exact pr_eqs | exact pr_eqb Try.underlying3)) ?_
         refine vy a_pick ?_
         refine vy a_pick ?_
         refine vl_nil ?_
         refine vif (fun hc10 => ?_) (fun hc10 => ?_)
         · -- yes
          refine vc_then ?_
          refine vc_region ?_
          refine vy a_assign ?_
          refine vl_nil ?_
          refine vc_ret ?_
          refine fin ?_
          simp only [fitsL, fits, C.asD, and_true]
          all_goals (refine scb ?_; first | (refine (name_short ?_).symm; (simp only [decide_eq_true_eq, decide_eq_false_iff_not, Bool.not_eq_true', Bool.not_eq_false', Bool.and_eq_true, Bool.or_eq_true, Bool.or_eq_false_iff, Bool.and_eq_false_iff, beq_iff_eq, beq_eq_false_iff_ne, ne_eq, Bool.not_true, Bool.not_false, Bool.false_eq_true, Bool.true_eq_false] at * <;> omega); done) | (refine (name_long ?_).symm; (simp only [decide_eq_true_eq, decide_eq_false_iff_not, Bool.not_eq_true', Bool.not_eq_false', Bool.and_eq_true, Bool.or_eq_true, Bool.or_eq_false_iff, Bool.and_eq_false_iff, beq_iff_eq, beq_eq_false_iff_ne, ne_eq, Bool.not_true, Bool.not_false, Bool.false_eq_true, Bool.true_eq_false] at * <;> omega); done) | (refine (name_no (char_lt hb) hb ?_).symm; (simp only [charB, decide_eq_true_eq, decide_eq_false_iff_not, Bool.not_eq_true', Bool.not_eq_false', Bool.and_eq_true, Bool.or_eq_true, Bool.or_eq_false_iff, Bool.and_eq_false_iff, beq_iff_eq, beq_eq_false_iff_ne, ne_eq, Bool.not_true, Bool.not_false, Bool.false_eq_true, Bool.true_eq_false] at * <;> omega); done) | (refine (name_yes hlo hhi ?_ hok).symm; (simp only [decide_eq_true_eq, decide_eq_false_iff_not, Bool.not_eq_true', Bool.not_eq_false', Bool.and_eq_true, Bool.or_eq_true, Bool.or_eq_false_iff, Bool.and_eq_false_iff, beq_iff_eq, beq_eq_false_iff_ne, ne_eq, Bool.not_true, Bool.not_false, Bool.false_eq_true, Bool.true_eq_false] at * <;> omega); done))
         · -- no
          refine vc_skip ?_
          refine vc_region ?_
          refine vy a_move ?_
          refine vy (a_bin (hr := by first | exact pr_add (by first | exact wrap64 _ (by (first | omega | (simp only [List.length_map, List.length_append, List.length_nil, List.length_cons]; omega))) | rfl) | exact pr_cat (by (first | omega | (simp only [List.length_map, List.length_append, List.length_nil, List.length_cons]; omega))))) ?_
          refine vy a_assign ?_
          refine vl_nil ?_
          refine ⟨_, ?_, k + 1, ⟨char_lt hb, okTo_next hok hb (by (simp only [charB, decide_eq_true_eq, decide_eq_false_iff_not, Bool.not_eq_true', Bool.not_eq_false', Bool.and_eq_true, Bool.or_eq_true, Bool.or_eq_false_iff, Bool.and_eq_false_iff, beq_iff_eq, beq_eq_false_iff_ne, ne_eq, Bool.not_true, Bool.not_false, Bool.false_eq_true, Bool.true_eq_false] at * <;> omega)), hlo, hhi⟩, rfl, ?_⟩
          · --
           have := char_lt hb; omega
          · --
           repeat (first | exact sub_no _ | refine su ?_)
       · -- guard no
        refine vn ?_
        refine vn ?_
        refine vn ?_
        refine vn ?_
        refine vn ?_
        refine vn ?_
        refine vy a_pick ?_
        refine vl_nil ?_
        refine vif (fun hc11 => ?_) (fun hc11 => ?_)
        · -- yes
         first | (exfalso; have hdead := hc11; simp at hdead <;> omega) | (exfalso; simp_all; done)
        · -- no
         refine vc_skip ?_
         refine vc_region ?_
         refine vy a_move ?_
         refine vy (a_bin (hr := by first | exact pr_add (by first | exact wrap64 _ (by (first | omega | (simp only [List.length_map, List.length_append, List.length_nil, List.length_cons]; omega))) | rfl) | exact pr_cat (by (first | omega | (simp only [List.length_map, List.length_append, List.length_nil, List.length_cons]; omega))))) ?_
         refine vy a_assign ?_
         refine vl_nil ?_
         refine ⟨_, ?_, k + 1, ⟨char_lt hb, okTo_next hok hb (by (simp only [charB, decide_eq_true_eq, decide_eq_false_iff_not, Bool.not_eq_true', Bool.not_eq_false', Bool.and_eq_true, Bool.or_eq_true, Bool.or_eq_false_iff, Bool.and_eq_false_iff, beq_iff_eq, beq_eq_false_iff_ne, ne_eq, Bool.not_true, Bool.not_false, Bool.false_eq_true, Bool.true_eq_false] at * <;> omega)), hlo, hhi⟩, rfl, ?_⟩
         · --
          have := char_lt hb; omega
         · --
          repeat (first | exact sub_no _ | refine su ?_)
      · -- guard no
       refine vn ?_
       refine vn ?_
       refine vn ?_
       refine vn ?_
       refine vy a_pick ?_
       refine vy a_assign ?_
       refine vl_nil ?_
       refine vc_then ?_
       refine vc_region ?_
       refine vy a_move ?_
       refine vy a_not ?_
       refine vy a_move ?_
       refine vb 42 (fun hg12 => ?_) (fun hg12 => ?_)
       · -- guard yes
        refine vy a_move ?_
        refine vy a_not ?_
        refine vy a_move ?_
        refine vn ?_
        refine vn ?_
        refine vy a_pick ?_
        refine vy a_pick ?_
        refine vl_nil ?_
        refine vif (fun hc13 => ?_) (fun hc13 => ?_)
        · -- yes
         refine vc_then ?_
         refine vc_region ?_
         refine vy a_assign ?_
         refine vl_nil ?_
         refine vc_ret ?_
         refine fin ?_
         simp only [fitsL, fits, C.asD, and_true]
         all_goals (refine scb ?_; first | (refine (name_short ?_).symm; (simp only [decide_eq_true_eq, decide_eq_false_iff_not, Bool.not_eq_true', Bool.not_eq_false', Bool.and_eq_true, Bool.or_eq_true, Bool.or_eq_false_iff, Bool.and_eq_false_iff, beq_iff_eq, beq_eq_false_iff_ne, ne_eq, Bool.not_true, Bool.not_false, Bool.false_eq_true, Bool.true_eq_false] at * <;> omega); done) | (refine (name_long ?_).symm; (simp only [decide_eq_true_eq, decide_eq_false_iff_not, Bool.not_eq_true', Bool.not_eq_false', Bool.and_eq_true, Bool.or_eq_true, Bool.or_eq_false_iff, Bool.and_eq_false_iff, beq_iff_eq, beq_eq_false_iff_ne, ne_eq, Bool.not_true, Bool.not_false, Bool.false_eq_true, Bool.true_eq_false] at * <;> omega); done) | (refine (name_no (char_lt hb) hb ?_).symm; (simp only [charB, decide_eq_true_eq, decide_eq_false_iff_not, Bool.not_eq_true', Bool.not_eq_false', Bool.and_eq_true, Bool.or_eq_true, Bool.or_eq_false_iff, Bool.and_eq_false_iff, beq_iff_eq, beq_eq_false_iff_ne, ne_eq, Bool.not_true, Bool.not_false, Bool.false_eq_true, Bool.true_eq_false] at * <;> omega); done) | (refine (name_yes hlo hhi ?_ hok).symm; (simp only [decide_eq_true_eq, decide_eq_false_iff_not, Bool.not_eq_true', Bool.not_eq_false', Bool.and_eq_true, Bool.or_eq_true, Bool.or_eq_false_iff, Bool.and_eq_false_iff, beq_iff_eq, beq_eq_false_iff_ne, ne_eq, Bool.not_true, Bool.not_false, Bool.false_eq_true, Bool.true_eq_false] at * <;> omega); done))
        · -- no
         first | (exfalso; have hdead := hc13; simp at hdead <;> omega) | (exfalso; simp_all; done)
       · -- guard no
        refine vn ?_
        refine vn ?_
        refine vn ?_
        refine vn ?_
        refine vn ?_
        refine vn ?_
        refine vy a_pick ?_
        refine vl_nil ?_
        refine vif (fun hc14 => ?_) (fun hc14 => ?_)
        · -- yes
         first | (exfalso; have hdead := hc14; simp at hdead <;> omega) | (exfalso; simp_all; done)
        · -- no
         refine vc_skip ?_
         refine vc_region ?_
         refine vy a_move ?_
         refine vy (a_bin (hr := by first | exact pr_add (by first | exact wrap64 _ (by (first | omega | (simp only [List.length_map, List.length_append, List.length_nil, List.length_cons]; omega))) | rfl) | exact pr_cat (by (first | omega | (simp only [List.length_map, List.length_append, List.length_nil, List.length_cons]; omega))))) ?_
         refine vy a_assign ?_
         refine vl_nil ?_
         refine ⟨_, ?_, k + 1, ⟨char_lt hb, okTo_next hok hb (by (simp only [charB, decide_eq_true_eq, decide_eq_false_iff_not, Bool.not_eq_true', Bool.not_eq_false', Bool.and_eq_true, Bool.or_eq_true, Bool.or_eq_false_iff, Bool.and_eq_false_iff, beq_iff_eq, beq_eq_false_iff_ne, ne_eq, Bool.not_true, Bool.not_false, Bool.false_eq_true, Bool.true_eq_false] at * <;> omega)), hlo, hhi⟩, rfl, ?_⟩
         · --
          have := char_lt hb; omega
         · --
          repeat (first | exact sub_no _ | refine su ?_)
     · -- guard no
      refine vn ?_
      refine vn ?_
      refine vn ?_
      refine vn ?_
      refine vy a_pick ?_
      refine vy a_assign ?_
      refine vl_nil ?_
      refine vc_then ?_
      refine vc_region ?_
      refine vy a_move ?_
      refine vy a_move ?_
      refine vy (a_char (hT := T.us_9) (h0 := by first | omega | decide) (hb := by exact char_ix hb)) ?_
      refine vy (a_bin (hr := by first | exact pr_geq)) ?_
      refine vy a_move ?_
      refine vb 34 (fun hg15 => ?_) (fun hg15 => ?_)
      · -- guard yes
       refine vy a_move ?_
       refine vy a_move ?_
       refine vy (a_char (hT := T.us_9) (h0 := by first | omega | decide) (hb := by exact char_ix hb)) ?_
       refine vy (a_bin (hr := by first | exact pr_leq)) ?_
       refine vy a_pick ?_
       refine vy a_assign ?_
       refine vl_nil ?_
       refine vc_then ?_
       refine vc_region ?_
       refine vy a_move ?_
       refine vy a_not ?_
       refine vy a_move ?_
       refine vy a_move ?_
       refine vy a_not ?_
       refine vy a_move ?_
       refine vb 45 (fun hg16 => ?_) (fun hg16 => ?_)
       · -- guard yes
        refine vn ?_
        refine vn ?_
        refine vy a_pick ?_
        refine vy a_pick ?_
        refine vl_nil ?_
        refine vif (fun hc17 => ?_) (fun hc17 => ?_)
        · -- yes
         refine vc_then ?_
         refine vc_region ?_
         refine vy a_assign ?_
         refine vl_nil ?_
         refine vc_ret ?_
         refine fin ?_
         simp only [fitsL, fits, C.asD, and_true]
         all_goals (refine scb ?_; first | (refine (name_short ?_).symm; (simp only [decide_eq_true_eq, decide_eq_false_iff_not, Bool.not_eq_true', Bool.not_eq_false', Bool.and_eq_true, Bool.or_eq_true, Bool.or_eq_false_iff, Bool.and_eq_false_iff, beq_iff_eq, beq_eq_false_iff_ne, ne_eq, Bool.not_true, Bool.not_false, Bool.false_eq_true, Bool.true_eq_false] at * <;> omega); done) | (refine (name_long ?_).symm; (simp only [decide_eq_true_eq, decide_eq_false_iff_not, Bool.not_eq_true', Bool.not_eq_false', Bool.and_eq_true, Bool.or_eq_true, Bool.or_eq_false_iff, Bool.and_eq_false_iff, beq_iff_eq, beq_eq_false_iff_ne, ne_eq, Bool.not_true, Bool.not_false, Bool.false_eq_true, Bool.true_eq_false] at * <;> omega); done) | (refine (name_no (char_lt hb) hb ?_).symm; (simp only [charB, decide_eq_true_eq, decide_eq_false_iff_not, Bool.not_eq_true', Bool.not_eq_false', Bool.and_eq_true, Bool.or_eq_true, Bool.or_eq_false_iff, Bool.and_eq_false_iff, beq_iff_eq, beq_eq_false_iff_ne, ne_eq, Bool.not_true, Bool.not_false, Bool.false_eq_true, Bool.true_eq_false] at * <;> omega); done) | (refine (name_yes hlo hhi ?_ hok).symm; (simp only [decide_eq_true_eq, decide_eq_false_iff_not, Bool.not_eq_true', Bool.not_eq_false', Bool.and_eq_true, Bool.or_eq_true, Bool.or_eq_false_iff, Bool.and_eq_false_iff, beq_iff_eq, beq_eq_false_iff_ne, ne_eq, Bool.not_true, Bool.not_false, Bool.false_eq_true, Bool.true_eq_false] at * <;> omega); done))
        · -- no
         first | (exfalso; have hdead := hc17; simp at hdead <;> omega) | (exfalso; simp_all; done)
       · -- guard no
        refine vy a_move ?_
        refine vy (a_bin (hr := by first | exact pr_eql | exact pr_eqs | exact pr_eqb Try.underlying3)) ?_
        refine vy a_pick ?_
        refine vy a_pick ?_
        refine vl_nil ?_
        refine vif (fun hc18 => ?_) (fun hc18 => ?_)
        · -- yes
         refine vc_then ?_
         refine vc_region ?_
         refine vy a_assign ?_
         refine vl_nil ?_
         refine vc_ret ?_
         refine fin ?_
         simp only [fitsL, fits, C.asD, and_true]
         all_goals (refine scb ?_; first | (refine (name_short ?_).symm; (simp only [decide_eq_true_eq, decide_eq_false_iff_not, Bool.not_eq_true', Bool.not_eq_false', Bool.and_eq_true, Bool.or_eq_true, Bool.or_eq_false_iff, Bool.and_eq_false_iff, beq_iff_eq, beq_eq_false_iff_ne, ne_eq, Bool.not_true, Bool.not_false, Bool.false_eq_true, Bool.true_eq_false] at * <;> omega); done) | (refine (name_long ?_).symm; (simp only [decide_eq_true_eq, decide_eq_false_iff_not, Bool.not_eq_true', Bool.not_eq_false', Bool.and_eq_true, Bool.or_eq_true, Bool.or_eq_false_iff, Bool.and_eq_false_iff, beq_iff_eq, beq_eq_false_iff_ne, ne_eq, Bool.not_true, Bool.not_false, Bool.false_eq_true, Bool.true_eq_false] at * <;> omega); done) | (refine (name_no (char_lt hb) hb ?_).symm; (simp only [charB, decide_eq_true_eq, decide_eq_false_iff_not, Bool.not_eq_true', Bool.not_eq_false', Bool.and_eq_true, Bool.or_eq_true, Bool.or_eq_false_iff, Bool.and_eq_false_iff, beq_iff_eq, beq_eq_false_iff_ne, ne_eq, Bool.not_true, Bool.not_false, Bool.false_eq_true, Bool.true_eq_false] at * <;> omega); done) | (refine (name_yes hlo hhi ?_ hok).symm; (simp only [decide_eq_true_eq, decide_eq_false_iff_not, Bool.not_eq_true', Bool.not_eq_false', Bool.and_eq_true, Bool.or_eq_true, Bool.or_eq_false_iff, Bool.and_eq_false_iff, beq_iff_eq, beq_eq_false_iff_ne, ne_eq, Bool.not_true, Bool.not_false, Bool.false_eq_true, Bool.true_eq_false] at * <;> omega); done))
        · -- no
         refine vc_skip ?_
         refine vc_region ?_
         refine vy a_move ?_
         refine vy (a_bin (hr := by first | exact pr_add (by first | exact wrap64 _ (by (first | omega | (simp only [List.length_map, List.length_append, List.length_nil, List.length_cons]; omega))) | rfl) | exact pr_cat (by (first | omega | (simp only [List.length_map, List.length_append, List.length_nil, List.length_cons]; omega))))) ?_
         refine vy a_assign ?_
         refine vl_nil ?_
         refine ⟨_, ?_, k + 1, ⟨char_lt hb, okTo_next hok hb (by (simp only [charB, decide_eq_true_eq, decide_eq_false_iff_not, Bool.not_eq_true', Bool.not_eq_false', Bool.and_eq_true, Bool.or_eq_true, Bool.or_eq_false_iff, Bool.and_eq_false_iff, beq_iff_eq, beq_eq_false_iff_ne, ne_eq, Bool.not_true, Bool.not_false, Bool.false_eq_true, Bool.true_eq_false] at * <;> omega)), hlo, hhi⟩, rfl, ?_⟩
         · --
          have := char_lt hb; omega
         · --
          repeat (first | exact sub_no _ | refine su ?_)
      · -- guard no
       refine vn ?_
       refine vn ?_
       refine vn ?_
       refine vn ?_
       refine vy a_pick ?_
       refine vy a_assign ?_
       refine vl_nil ?_
       refine vc_then ?_
       refine vc_region ?_
       refine vy a_move ?_
       refine vy a_not ?_
       refine vy a_move ?_
       refine vy a_move ?_
       refine vy a_not ?_
       refine vy a_move ?_
       refine vn ?_
       refine vn ?_
       refine vy a_pick ?_
       refine vy a_pick ?_
       refine vl_nil ?_
       refine vif (fun hc19 => ?_) (fun hc19 => ?_)
       · -- yes
        refine vc_then ?_
        refine vc_region ?_
        refine vy a_assign ?_
        refine vl_nil ?_
        refine vc_ret ?_
        refine fin ?_
        simp only [fitsL, fits, C.asD, and_true]
        all_goals (refine scb ?_; first | (refine (name_short ?_).symm; (simp only [decide_eq_true_eq, decide_eq_false_iff_not, Bool.not_eq_true', Bool.not_eq_false', Bool.and_eq_true, Bool.or_eq_true, Bool.or_eq_false_iff, Bool.and_eq_false_iff, beq_iff_eq, beq_eq_false_iff_ne, ne_eq, Bool.not_true, Bool.not_false, Bool.false_eq_true, Bool.true_eq_false] at * <;> omega); done) | (refine (name_long ?_).symm; (simp only [decide_eq_true_eq, decide_eq_false_iff_not, Bool.not_eq_true', Bool.not_eq_false', Bool.and_eq_true, Bool.or_eq_true, Bool.or_eq_false_iff, Bool.and_eq_false_iff, beq_iff_eq, beq_eq_false_iff_ne, ne_eq, Bool.not_true, Bool.not_false, Bool.false_eq_true, Bool.true_eq_false] at * <;> omega); done) | (refine (name_no (char_lt hb) hb ?_).symm; (simp only [charB, decide_eq_true_eq, decide_eq_false_iff_not, Bool.not_eq_true', Bool.not_eq_false', Bool.and_eq_true, Bool.or_eq_true, Bool.or_eq_false_iff, Bool.and_eq_false_iff, beq_iff_eq, beq_eq_false_iff_ne, ne_eq, Bool.not_true, Bool.not_false, Bool.false_eq_true, Bool.true_eq_false] at * <;> omega); done) | (refine (name_yes hlo hhi ?_ hok).symm; (simp only [decide_eq_true_eq, decide_eq_false_iff_not, Bool.not_eq_true', Bool.not_eq_false', Bool.and_eq_true, Bool.or_eq_true, Bool.or_eq_false_iff, Bool.and_eq_false_iff, beq_iff_eq, beq_eq_false_iff_ne, ne_eq, Bool.not_true, Bool.not_false, Bool.false_eq_true, Bool.true_eq_false] at * <;> omega); done))
       · -- no
        first | (exfalso; have hdead := hc19; simp at hdead <;> omega) | (exfalso; simp_all; done)
    · -- no
     refine vc_exit ?_
     refine vc_then ?_
     refine vc_region ?_
     refine vy a_assign ?_
     refine vl_nil ?_
     refine vc_ret ?_
     refine fin ?_
     simp only [fitsL, fits, C.asD, and_true]
     all_goals (refine scb ?_; first | (refine (name_short ?_).symm; (simp only [decide_eq_true_eq, decide_eq_false_iff_not, Bool.not_eq_true', Bool.not_eq_false', Bool.and_eq_true, Bool.or_eq_true, Bool.or_eq_false_iff, Bool.and_eq_false_iff, beq_iff_eq, beq_eq_false_iff_ne, ne_eq, Bool.not_true, Bool.not_false, Bool.false_eq_true, Bool.true_eq_false] at * <;> omega); done) | (refine (name_long ?_).symm; (simp only [decide_eq_true_eq, decide_eq_false_iff_not, Bool.not_eq_true', Bool.not_eq_false', Bool.and_eq_true, Bool.or_eq_true, Bool.or_eq_false_iff, Bool.and_eq_false_iff, beq_iff_eq, beq_eq_false_iff_ne, ne_eq, Bool.not_true, Bool.not_false, Bool.false_eq_true, Bool.true_eq_false] at * <;> omega); done) | (refine (name_no (char_lt hb) hb ?_).symm; (simp only [charB, decide_eq_true_eq, decide_eq_false_iff_not, Bool.not_eq_true', Bool.not_eq_false', Bool.and_eq_true, Bool.or_eq_true, Bool.or_eq_false_iff, Bool.and_eq_false_iff, beq_iff_eq, beq_eq_false_iff_ne, ne_eq, Bool.not_true, Bool.not_false, Bool.false_eq_true, Bool.true_eq_false] at * <;> omega); done) | (refine (name_yes hlo hhi ?_ hok).symm; (simp only [decide_eq_true_eq, decide_eq_false_iff_not, Bool.not_eq_true', Bool.not_eq_false', Bool.and_eq_true, Bool.or_eq_true, Bool.or_eq_false_iff, Bool.and_eq_false_iff, beq_iff_eq, beq_eq_false_iff_ne, ne_eq, Bool.not_true, Bool.not_false, Bool.false_eq_true, Bool.true_eq_false] at * <;> omega); done))

set_option maxHeartbeats 1000000 in
theorem text_any (s : ByteArray) : Contract Try.prog 91 [.sc (.string s)] [.d (.sc (.bool (decide (s.size ≤ 40))))] := by
 refine fn_of (N := 6) [.tmp 2] Try.func91 ?_
 simp only [envUp, Nat.zero_add, Nat.reduceAdd]
 refine vc_then ?_
 refine vc_region ?_
 refine vy a_assign ?_
 refine vl_nil ?_
 refine vc_then ?_
 refine vc_region ?_
 refine vy a_move ?_
 refine vy (a_lens (hT := T.us_9)) ?_
 refine vy (a_bin (hr := by first | exact pr_leq)) ?_
 refine vy a_assign ?_
 refine vl_nil ?_
 refine vc_ret ?_
 refine fin ?_
 simp only [fitsL, fits, C.asD, and_true]
 all_goals (refine scb ?_; simp; omega)

set_option maxHeartbeats 1000000 in
theorem factor_any (n : Int) : Contract Try.prog 90 [.sc (.int .i64 n)] [.d (.sc (.bool (decide (2 ≤ n) && decide (n ≤ 1000))))] := by
 refine fn_of (N := 9) [.tmp 2] Try.func90 ?_
 simp only [envUp, Nat.zero_add, Nat.reduceAdd]
 refine vc_then ?_
 refine vc_region ?_
 refine vy a_assign ?_
 refine vl_nil ?_
 refine vc_then ?_
 refine vc_region ?_
 refine vy a_move ?_
 refine vy (a_bin (hr := by first | exact pr_geq)) ?_
 refine vy a_move ?_
 refine vb 5 (fun hg1 => ?_) (fun hg1 => ?_)
 · -- guard yes
  refine vy a_move ?_
  refine vy (a_bin (hr := by first | exact pr_leq)) ?_
  refine vy a_pick ?_
  refine vy a_assign ?_
  refine vl_nil ?_
  refine vc_ret ?_
  refine fin ?_
  simp only [fitsL, fits, C.asD, and_true]
  all_goals (refine scb ?_; first | (simp_all; done) | (simp_all <;> (intros; omega)))
 · -- guard no
  refine vn ?_
  refine vn ?_
  refine vy a_pick ?_
  refine vy a_assign ?_
  refine vl_nil ?_
  refine vc_ret ?_
  refine fin ?_
  simp only [fitsL, fits, C.asD, and_true]
  all_goals (refine scb ?_; first | (simp_all; done) | (simp_all <;> (intros; omega)))
end Go.Vm
