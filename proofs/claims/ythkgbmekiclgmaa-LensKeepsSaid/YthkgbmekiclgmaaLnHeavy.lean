/- The walks of what is more than is gone through. Printed by lens_schema.py. -/
import Derived.Test.YthkgbmekiclgmaaLnSchema2
namespace Go.Vm
open Go.RowKit Go.Proofs
set_option linter.unusedVariables false
set_option linter.unusedSimpArgs false
set_option maxRecDepth 10000

def heavyF (f : FieldD) : Bool := decide (200 < f.at_.group.size) || decide (200 < f.at_.name.size) || decide (200 < f.deft.size) || decide (20 < f.cases.length) || f.cases.any (fun c => decide (200 < c.size))
def heavyS (l : List FieldD) : Bool := decide (40 < l.length) || l.any heavyF
theorem any_hit {α : Type} {l : List α} {f : α → Bool} {k : Nat} {p : α} (hp : l[k]? = some p) (h : f p = true) : l.any f = true := List.any_eq_true.2 ⟨p, List.mem_of_getElem? hp, h⟩
theorem any_next {α : Type} {l : List α} {f : α → Bool} {k : Nat} {p : α} (hp : l[k]? = some p) (h : (l.take k).any f = false) (hn : f p = false) : (l.take (k + 1)).any f = false := by
  rw [take_next hp, List.any_append, h]; simp [hn]
theorem any_end {α : Type} {l : List α} {f : α → Bool} {k : Nat} (hk : l.length ≤ k) (h : (l.take k).any f = false) : l.any f = false := by rwa [List.take_of_length_le hk] at h
theorem heavyF_ok {f : FieldD} (h : heavyF f = false) : f.cases.length ≤ 20 := by
  unfold heavyF at h; simp only [Bool.or_eq_false_iff, decide_eq_false_iff_not] at h; omega
theorem heavyS_ok {l : List FieldD} (h : heavyS l = false) : okL l := by
  unfold heavyS at h; simp only [Bool.or_eq_false_iff, decide_eq_false_iff_not] at h
  refine ⟨by omega, fun f hf => ?_⟩
  have := heavyF_ok (List.any_eq_false.1 h.2 f hf |> fun k => by simpa using k)
  omega

set_option maxHeartbeats 1000000 in
theorem refFieldHeavy_any (f : FieldD) : Contract Try.prog 64 [fD f] [.d (.sc (.bool (heavyF f)))] := by
 refine fn_of (N := 42) [.tmp 2] Try.func64 ?_
 simp only [envUp, Nat.zero_add, Nat.reduceAdd]
 refine vc_then ?_
 refine vc_region ?_
 refine vs b_box ?_
 refine vy a_assign ?_
 refine vl_nil ?_
 refine vc_then ?_
 refine vc_then ?_
 refine vc_region ?_
 first | refine vy (a_fr (hf := T.fo_27_0)) ?_ | refine vy (a_fa (hf := T.fo_27_0)) ?_
 first | refine vy (a_fr (hf := T.fo_24_1)) ?_ | refine vy (a_fa (hf := T.fo_24_1)) ?_
 first | refine vy (k_ldr T.ts_9) ?_ | refine vy (k_lda T.ts_9) ?_
 refine vy (a_lens (hT := T.us_9)) ?_
 refine vy (a_bin (hr := by first | exact pr_gtr)) ?_
 refine vy a_move ?_
 refine vb 9 (fun hg1 => ?_) (fun hg1 => ?_)
 · -- guard yes
  refine vn ?_
  refine vn ?_
  refine vn ?_
  refine vn ?_
  refine vn ?_
  refine vy a_pick ?_
  refine vy a_move ?_
  refine vn ?_
  refine vn ?_
  refine vn ?_
  refine vn ?_
  refine vy a_pick ?_
  refine vy a_move ?_
  refine vn ?_
  refine vn ?_
  refine vn ?_
  refine vn ?_
  refine vy a_pick ?_
  refine vl_nil ?_
  refine vif (fun hc2 => ?_) (fun hc2 => ?_)
  · -- yes
   refine vc_then ?_
   refine vc_region ?_
   refine vy a_assign ?_
   refine vl_nil ?_
   refine vc_ret ?_
   refine fin ?_
   simp only [fitsL, fits, C.asD, and_true]
   all_goals (refine scb ?_; first | (have hh := any_hit (f := fun c : ByteArray => decide (200 < c.size)) hp (by (simp only [decide_eq_true_eq, decide_eq_false_iff_not, Bool.not_eq_true', Bool.not_eq_false', Bool.and_eq_true, Bool.or_eq_true, Bool.or_eq_false_iff, Bool.and_eq_false_iff, beq_iff_eq, beq_eq_false_iff_ne, ne_eq, Bool.not_true, Bool.not_false, Bool.false_eq_true, Bool.true_eq_false] at * <;> omega)); unfold heavyF; rw [hh, Bool.or_true]; done) | (have hh := any_end (past_end (by assumption)) hi.1; unfold heavyF; rw [hh, Bool.or_false]; symm; simp only [decide_eq_true_eq, decide_eq_false_iff_not, Bool.not_eq_true', Bool.not_eq_false', Bool.and_eq_true, Bool.or_eq_true, Bool.or_eq_false_iff, Bool.and_eq_false_iff, beq_iff_eq, beq_eq_false_iff_ne, ne_eq, Bool.not_true, Bool.not_false, Bool.false_eq_true, Bool.true_eq_false] at * <;> omega) | (symm; unfold heavyF; simp only [decide_eq_true_eq, decide_eq_false_iff_not, Bool.not_eq_true', Bool.not_eq_false', Bool.and_eq_true, Bool.or_eq_true, Bool.or_eq_false_iff, Bool.and_eq_false_iff, beq_iff_eq, beq_eq_false_iff_ne, ne_eq, Bool.not_true, Bool.not_false, Bool.false_eq_true, Bool.true_eq_false] at * <;> omega))
  · -- no
   first | (exfalso; have hdead := hc2; simp at hdead <;> omega) | (exfalso; simp_all; done)
 · -- guard no
  first | refine vy (a_fr (hf := T.fo_27_0)) ?_ | refine vy (a_fa (hf := T.fo_27_0)) ?_
  first | refine vy (a_fr (hf := T.fo_24_2)) ?_ | refine vy (a_fa (hf := T.fo_24_2)) ?_
  first | refine vy (k_ldr T.ts_9) ?_ | refine vy (k_lda T.ts_9) ?_
  refine vy (a_lens (hT := T.us_9)) ?_
  refine vy (a_bin (hr := by first | exact pr_gtr)) ?_
  refine vy a_pick ?_
  refine vy a_move ?_
  refine vb 16 (fun hg3 => ?_) (fun hg3 => ?_)
  · -- guard yes
   refine vn ?_
   refine vn ?_
   refine vn ?_
   refine vn ?_
   refine vy a_pick ?_
   refine vy a_move ?_
   refine vn ?_
   refine vn ?_
   refine vn ?_
   refine vn ?_
   refine vy a_pick ?_
   refine vl_nil ?_
   refine vif (fun hc4 => ?_) (fun hc4 => ?_)
   · -- yes
    refine vc_then ?_
    refine vc_region ?_
    refine vy a_assign ?_
    refine vl_nil ?_
    refine vc_ret ?_
    refine fin ?_
    simp only [fitsL, fits, C.asD, and_true]
    all_goals (refine scb ?_; first | (have hh := any_hit (f := fun c : ByteArray => decide (200 < c.size)) hp (by (simp only [decide_eq_true_eq, decide_eq_false_iff_not, Bool.not_eq_true', Bool.not_eq_false', Bool.and_eq_true, Bool.or_eq_true, Bool.or_eq_false_iff, Bool.and_eq_false_iff, beq_iff_eq, beq_eq_false_iff_ne, ne_eq, Bool.not_true, Bool.not_false, Bool.false_eq_true, Bool.true_eq_false] at * <;> omega)); unfold heavyF; rw [hh, Bool.or_true]; done) | (have hh := any_end (past_end (by assumption)) hi.1; unfold heavyF; rw [hh, Bool.or_false]; symm; simp only [decide_eq_true_eq, decide_eq_false_iff_not, Bool.not_eq_true', Bool.not_eq_false', Bool.and_eq_true, Bool.or_eq_true, Bool.or_eq_false_iff, Bool.and_eq_false_iff, beq_iff_eq, beq_eq_false_iff_ne, ne_eq, Bool.not_true, Bool.not_false, Bool.false_eq_true, Bool.true_eq_false] at * <;> omega) | (symm; unfold heavyF; simp only [decide_eq_true_eq, decide_eq_false_iff_not, Bool.not_eq_true', Bool.not_eq_false', Bool.and_eq_true, Bool.or_eq_true, Bool.or_eq_false_iff, Bool.and_eq_false_iff, beq_iff_eq, beq_eq_false_iff_ne, ne_eq, Bool.not_true, Bool.not_false, Bool.false_eq_true, Bool.true_eq_false] at * <;> omega))
   · -- no
    first | (exfalso; have hdead := hc4; simp at hdead <;> omega) | (exfalso; simp_all; done)
  · -- guard no
   first | refine vy (a_fr (hf := T.fo_27_2)) ?_ | refine vy (a_fa (hf := T.fo_27_2)) ?_
   first | refine vy (k_ldr T.ts_9) ?_ | refine vy (k_lda T.ts_9) ?_
   refine vy (a_lens (hT := T.us_9)) ?_
   refine vy (a_bin (hr := by first | exact pr_gtr)) ?_
   refine vy a_pick ?_
   refine vy a_move ?_
   refine vb 22 (fun hg5 => ?_) (fun hg5 => ?_)
   · -- guard yes
    refine vn ?_
    refine vn ?_
    refine vn ?_
    refine vn ?_
    refine vy a_pick ?_
    refine vl_nil ?_
    refine vif (fun hc6 => ?_) (fun hc6 => ?_)
    · -- yes
     refine vc_then ?_
     refine vc_region ?_
     refine vy a_assign ?_
     refine vl_nil ?_
     refine vc_ret ?_
     refine fin ?_
     simp only [fitsL, fits, C.asD, and_true]
     all_goals (refine scb ?_; first | (have hh := any_hit (f := fun c : ByteArray => decide (200 < c.size)) hp (by (simp only [decide_eq_true_eq, decide_eq_false_iff_not, Bool.not_eq_true', Bool.not_eq_false', Bool.and_eq_true, Bool.or_eq_true, Bool.or_eq_false_iff, Bool.and_eq_false_iff, beq_iff_eq, beq_eq_false_iff_ne, ne_eq, Bool.not_true, Bool.not_false, Bool.false_eq_true, Bool.true_eq_false] at * <;> omega)); unfold heavyF; rw [hh, Bool.or_true]; done) | (have hh := any_end (past_end (by assumption)) hi.1; unfold heavyF; rw [hh, Bool.or_false]; symm; simp only [decide_eq_true_eq, decide_eq_false_iff_not, Bool.not_eq_true', Bool.not_eq_false', Bool.and_eq_true, Bool.or_eq_true, Bool.or_eq_false_iff, Bool.and_eq_false_iff, beq_iff_eq, beq_eq_false_iff_ne, ne_eq, Bool.not_true, Bool.not_false, Bool.false_eq_true, Bool.true_eq_false] at * <;> omega) | (symm; unfold heavyF; simp only [decide_eq_true_eq, decide_eq_false_iff_not, Bool.not_eq_true', Bool.not_eq_false', Bool.and_eq_true, Bool.or_eq_true, Bool.or_eq_false_iff, Bool.and_eq_false_iff, beq_iff_eq, beq_eq_false_iff_ne, ne_eq, Bool.not_true, Bool.not_false, Bool.false_eq_true, Bool.true_eq_false] at * <;> omega))
    · -- no
     first | (exfalso; have hdead := hc6; simp at hdead <;> omega) | (exfalso; simp_all; done)
   · -- guard no
    first | refine vy (a_fr (hf := T.fo_27_3)) ?_ | refine vy (a_fa (hf := T.fo_27_3)) ?_
    first | refine vy (k_ldr T.ts_25) ?_ | refine vy (k_lda T.ts_25) ?_
    refine vy (a_len (hT := T.es_25)) ?_
    refine vy (a_bin (hr := by first | exact pr_gtr)) ?_
    refine vy a_pick ?_
    refine vl_nil ?_
    refine vif (fun hc7 => ?_) (fun hc7 => ?_)
    · -- yes
     refine vc_then ?_
     refine vc_region ?_
     refine vy a_assign ?_
     refine vl_nil ?_
     refine vc_ret ?_
     refine fin ?_
     simp only [fitsL, fits, C.asD, and_true]
     all_goals (refine scb ?_; first | (have hh := any_hit (f := fun c : ByteArray => decide (200 < c.size)) hp (by (simp only [decide_eq_true_eq, decide_eq_false_iff_not, Bool.not_eq_true', Bool.not_eq_false', Bool.and_eq_true, Bool.or_eq_true, Bool.or_eq_false_iff, Bool.and_eq_false_iff, beq_iff_eq, beq_eq_false_iff_ne, ne_eq, Bool.not_true, Bool.not_false, Bool.false_eq_true, Bool.true_eq_false] at * <;> omega)); unfold heavyF; rw [hh, Bool.or_true]; done) | (have hh := any_end (past_end (by assumption)) hi.1; unfold heavyF; rw [hh, Bool.or_false]; symm; simp only [decide_eq_true_eq, decide_eq_false_iff_not, Bool.not_eq_true', Bool.not_eq_false', Bool.and_eq_true, Bool.or_eq_true, Bool.or_eq_false_iff, Bool.and_eq_false_iff, beq_iff_eq, beq_eq_false_iff_ne, ne_eq, Bool.not_true, Bool.not_false, Bool.false_eq_true, Bool.true_eq_false] at * <;> omega) | (symm; unfold heavyF; simp only [decide_eq_true_eq, decide_eq_false_iff_not, Bool.not_eq_true', Bool.not_eq_false', Bool.and_eq_true, Bool.or_eq_true, Bool.or_eq_false_iff, Bool.and_eq_false_iff, beq_iff_eq, beq_eq_false_iff_ne, ne_eq, Bool.not_true, Bool.not_false, Bool.false_eq_true, Bool.true_eq_false] at * <;> omega))
    · -- no
     have h20 : f.cases.length ≤ 20 := by (simp only [decide_eq_true_eq, decide_eq_false_iff_not, Bool.not_eq_true', Bool.not_eq_false', Bool.and_eq_true, Bool.or_eq_true, Bool.or_eq_false_iff, Bool.and_eq_false_iff, beq_iff_eq, beq_eq_false_iff_ne, ne_eq, Bool.not_true, Bool.not_false, Bool.false_eq_true, Bool.true_eq_false] at * <;> omega)
     refine vc_skip ?_
     refine vc_then ?_
     refine vc_then ?_
     refine vc_region ?_
     refine vy a_assign ?_
     refine vl_nil ?_
     refine vc_block ?_
     refine vk [1] (fun (k : Nat) e => upd (e) (some 3) (.c (.d (.sc (.int .i64 (k : Nat)))))) (fun k => k ≤ f.cases.length ∧ (f.cases.take k).any (fun c => decide (200 < c.size)) = false ∧ f.cases.length ≤ 20) (fun k => f.cases.length - k) 0 ⟨Nat.zero_le _, ⟨rfl, h20⟩⟩ ?_ ?_
     · --
      repeat (first | exact sub_keep_nil | refine su ?_ | refine sk ?_)
     · --
      rintro k ⟨hk, hi⟩
      refine vc_then ?_
      refine vc_then ?_
      refine vc_region ?_
      refine vy a_move ?_
      first | refine vy (a_fr (hf := T.fo_27_3)) ?_ | refine vy (a_fa (hf := T.fo_27_3)) ?_
      first | refine vy (k_ldr T.ts_25) ?_ | refine vy (k_lda T.ts_25) ?_
      refine vy (a_len (hT := T.es_25)) ?_
      refine vy (a_bin (hr := by first | exact pr_lss | exact pr_lts)) ?_
      refine vl_nil ?_
      refine vif (fun hc8 => ?_) (fun hc8 => ?_)
      · -- yes
       obtain ⟨p, hp⟩ := elem_at hc8
       have hkl := lt_len hp
       refine vc_skip ?_
       refine vc_then ?_
       refine vc_block ?_
       refine vc_then ?_
       refine vc_region ?_
       first | refine vy (a_fr (hf := T.fo_27_3)) ?_ | refine vy (a_fa (hf := T.fo_27_3)) ?_
       first | refine vy (k_ldr T.ts_25) ?_ | refine vy (k_lda T.ts_25) ?_
       refine vy a_move ?_
       refine vy (a_ix (hT := T.es_25) (h0 := by first | omega | decide) (hy := by exact map_at hp)) ?_
       first | refine vy (k_ldr T.ts_9) ?_ | refine vy (k_lda T.ts_9) ?_
       refine vy (a_lens (hT := T.us_9)) ?_
       refine vy (a_bin (hr := by first | exact pr_gtr)) ?_
       refine vl_nil ?_
       refine vif (fun hc9 => ?_) (fun hc9 => ?_)
       · -- yes
        refine vc_then ?_
        refine vc_region ?_
        refine vy a_assign ?_
        refine vl_nil ?_
        refine vc_ret ?_
        refine fin ?_
        simp only [fitsL, fits, C.asD, and_true]
        all_goals (refine scb ?_; first | (have hh := any_hit (f := fun c : ByteArray => decide (200 < c.size)) hp (by (simp only [decide_eq_true_eq, decide_eq_false_iff_not, Bool.not_eq_true', Bool.not_eq_false', Bool.and_eq_true, Bool.or_eq_true, Bool.or_eq_false_iff, Bool.and_eq_false_iff, beq_iff_eq, beq_eq_false_iff_ne, ne_eq, Bool.not_true, Bool.not_false, Bool.false_eq_true, Bool.true_eq_false] at * <;> omega)); unfold heavyF; rw [hh, Bool.or_true]; done) | (have hh := any_end (past_end (by assumption)) hi.1; unfold heavyF; rw [hh, Bool.or_false]; symm; simp only [decide_eq_true_eq, decide_eq_false_iff_not, Bool.not_eq_true', Bool.not_eq_false', Bool.and_eq_true, Bool.or_eq_true, Bool.or_eq_false_iff, Bool.and_eq_false_iff, beq_iff_eq, beq_eq_false_iff_ne, ne_eq, Bool.not_true, Bool.not_false, Bool.false_eq_true, Bool.true_eq_false] at * <;> omega) | (symm; unfold heavyF; simp only [decide_eq_true_eq, decide_eq_false_iff_not, Bool.not_eq_true', Bool.not_eq_false', Bool.and_eq_true, Bool.or_eq_true, Bool.or_eq_false_iff, Bool.and_eq_false_iff, beq_iff_eq, beq_eq_false_iff_ne, ne_eq, Bool.not_true, Bool.not_false, Bool.false_eq_true, Bool.true_eq_false] at * <;> omega))
       · -- no
        refine vc_skip ?_
        refine vc_region ?_
        refine vy a_move ?_
        refine vy (a_bin (hr := by first | exact pr_add (by first | exact wrap64 _ (by (first | omega | (simp only [List.length_map, List.length_append, List.length_nil, List.length_cons]; omega))) | rfl) | exact pr_cat (by (first | omega | (simp only [List.length_map, List.length_append, List.length_nil, List.length_cons]; omega))))) ?_
        refine vy a_assign ?_
        refine vl_nil ?_
        refine ⟨_, ?_, (k + 1), ⟨lt_len hp, any_next hp hi.1 (by (simp only [decide_eq_true_eq, decide_eq_false_iff_not, Bool.not_eq_true', Bool.not_eq_false', Bool.and_eq_true, Bool.or_eq_true, Bool.or_eq_false_iff, Bool.and_eq_false_iff, beq_iff_eq, beq_eq_false_iff_ne, ne_eq, Bool.not_true, Bool.not_false, Bool.false_eq_true, Bool.true_eq_false] at * <;> omega)), hi.2⟩, rfl, ?_⟩
        · --
         have := lt_len hp; omega
        · --
         repeat (first | exact sub_keep_nil | refine su ?_ | refine sk ?_)
      · -- no
       refine vc_exit ?_
       refine vc_then ?_
       refine vc_region ?_
       refine vy a_assign ?_
       refine vl_nil ?_
       refine vc_ret ?_
       refine fin ?_
       simp only [fitsL, fits, C.asD, and_true]
       all_goals (refine scb ?_; first | (have hh := any_hit (f := fun c : ByteArray => decide (200 < c.size)) hp (by (simp only [decide_eq_true_eq, decide_eq_false_iff_not, Bool.not_eq_true', Bool.not_eq_false', Bool.and_eq_true, Bool.or_eq_true, Bool.or_eq_false_iff, Bool.and_eq_false_iff, beq_iff_eq, beq_eq_false_iff_ne, ne_eq, Bool.not_true, Bool.not_false, Bool.false_eq_true, Bool.true_eq_false] at * <;> omega)); unfold heavyF; rw [hh, Bool.or_true]; done) | (have hh := any_end (past_end (by assumption)) hi.1; unfold heavyF; rw [hh, Bool.or_false]; symm; simp only [decide_eq_true_eq, decide_eq_false_iff_not, Bool.not_eq_true', Bool.not_eq_false', Bool.and_eq_true, Bool.or_eq_true, Bool.or_eq_false_iff, Bool.and_eq_false_iff, beq_iff_eq, beq_eq_false_iff_ne, ne_eq, Bool.not_true, Bool.not_false, Bool.false_eq_true, Bool.true_eq_false] at * <;> omega) | (symm; unfold heavyF; simp only [decide_eq_true_eq, decide_eq_false_iff_not, Bool.not_eq_true', Bool.not_eq_false', Bool.and_eq_true, Bool.or_eq_true, Bool.or_eq_false_iff, Bool.and_eq_false_iff, beq_iff_eq, beq_eq_false_iff_ne, ne_eq, Bool.not_true, Bool.not_false, Bool.false_eq_true, Bool.true_eq_false] at * <;> omega))

set_option maxHeartbeats 1000000 in
theorem refSchemaHeavy_any (l : List FieldD) : Contract Try.prog 12 [.row (l.map fD)] [.d (.sc (.bool (heavyS l)))] := by
 refine fn_of (N := 18) [.tmp 2] Try.func12 ?_
 simp only [envUp, Nat.zero_add, Nat.reduceAdd]
 refine vc_then ?_
 refine vc_region ?_
 refine vy a_assign ?_
 refine vl_nil ?_
 refine vc_then ?_
 refine vc_then ?_
 refine vc_region ?_
 refine vy a_move ?_
 refine vy (a_len (hT := T.es_22)) ?_
 refine vy (a_bin (hr := by first | exact pr_gtr)) ?_
 refine vl_nil ?_
 refine vif (fun hc1 => ?_) (fun hc1 => ?_)
 · -- yes
  refine vc_then ?_
  refine vc_region ?_
  refine vy a_assign ?_
  refine vl_nil ?_
  refine vc_ret ?_
  refine fin ?_
  simp only [fitsL, fits, C.asD, and_true]
  all_goals (refine scb ?_; first | (have hh := any_hit hp ‹heavyF p = true›; unfold heavyS; rw [hh, Bool.or_true]; done) | (have hh := any_end (past_end (by assumption)) hi.1; unfold heavyS; rw [hh, Bool.or_false]; symm; simp only [decide_eq_true_eq, decide_eq_false_iff_not, Bool.not_eq_true', Bool.not_eq_false', Bool.and_eq_true, Bool.or_eq_true, Bool.or_eq_false_iff, Bool.and_eq_false_iff, beq_iff_eq, beq_eq_false_iff_ne, ne_eq, Bool.not_true, Bool.not_false, Bool.false_eq_true, Bool.true_eq_false] at * <;> omega) | (symm; unfold heavyS; simp only [decide_eq_true_eq, decide_eq_false_iff_not, Bool.not_eq_true', Bool.not_eq_false', Bool.and_eq_true, Bool.or_eq_true, Bool.or_eq_false_iff, Bool.and_eq_false_iff, beq_iff_eq, beq_eq_false_iff_ne, ne_eq, Bool.not_true, Bool.not_false, Bool.false_eq_true, Bool.true_eq_false] at * <;> omega))
 · -- no
  have h40 : l.length ≤ 40 := by (simp only [decide_eq_true_eq, decide_eq_false_iff_not, Bool.not_eq_true', Bool.not_eq_false', Bool.and_eq_true, Bool.or_eq_true, Bool.or_eq_false_iff, Bool.and_eq_false_iff, beq_iff_eq, beq_eq_false_iff_ne, ne_eq, Bool.not_true, Bool.not_false, Bool.false_eq_true, Bool.true_eq_false] at * <;> omega)
  refine vc_skip ?_
  refine vc_then ?_
  refine vc_then ?_
  refine vc_region ?_
  refine vy a_assign ?_
  refine vl_nil ?_
  refine vc_block ?_
  refine vk [0] (fun (k : Nat) e => upd (e) (some 3) (.c (.d (.sc (.int .i64 (k : Nat)))))) (fun k => k ≤ l.length ∧ (l.take k).any heavyF = false ∧ l.length ≤ 40) (fun k => l.length - k) 0 ⟨Nat.zero_le _, ⟨rfl, h40⟩⟩ ?_ ?_
  · --
   repeat (first | exact sub_keep_nil | refine su ?_ | refine sk ?_)
  · --
   rintro k ⟨hk, hi⟩
   refine vc_then ?_
   refine vc_then ?_
   refine vc_region ?_
   refine vy a_move ?_
   refine vy a_move ?_
   refine vy (a_len (hT := T.es_22)) ?_
   refine vy (a_bin (hr := by first | exact pr_lss | exact pr_lts)) ?_
   refine vl_nil ?_
   refine vif (fun hc2 => ?_) (fun hc2 => ?_)
   · -- yes
    obtain ⟨p, hp⟩ := elem_at hc2
    have hkl := lt_len hp
    refine vc_skip ?_
    refine vc_then ?_
    refine vc_block ?_
    refine vc_then ?_
    refine vc_region ?_
    refine vy a_move ?_
    refine vy a_move ?_
    refine vy (a_ix (hT := T.es_22) (h0 := by first | omega | decide) (hy := by exact map_at hp)) ?_
    first | refine vy (k_ldr T.ts_27) ?_ | refine vy (k_lda T.ts_27) ?_
    refine vy (a_call (hf := T.en_64) (hc := by exact refFieldHeavy_any _)) ?_
    refine vl_nil ?_
    refine vif (fun hc3 => ?_) (fun hc3 => ?_)
    · -- yes
     refine vc_then ?_
     refine vc_region ?_
     refine vy a_assign ?_
     refine vl_nil ?_
     refine vc_ret ?_
     refine fin ?_
     simp only [fitsL, fits, C.asD, and_true]
     all_goals (refine scb ?_; first | (have hh := any_hit hp ‹heavyF p = true›; unfold heavyS; rw [hh, Bool.or_true]; done) | (have hh := any_end (past_end (by assumption)) hi.1; unfold heavyS; rw [hh, Bool.or_false]; symm; simp only [decide_eq_true_eq, decide_eq_false_iff_not, Bool.not_eq_true', Bool.not_eq_false', Bool.and_eq_true, Bool.or_eq_true, Bool.or_eq_false_iff, Bool.and_eq_false_iff, beq_iff_eq, beq_eq_false_iff_ne, ne_eq, Bool.not_true, Bool.not_false, Bool.false_eq_true, Bool.true_eq_false] at * <;> omega) | (symm; unfold heavyS; simp only [decide_eq_true_eq, decide_eq_false_iff_not, Bool.not_eq_true', Bool.not_eq_false', Bool.and_eq_true, Bool.or_eq_true, Bool.or_eq_false_iff, Bool.and_eq_false_iff, beq_iff_eq, beq_eq_false_iff_ne, ne_eq, Bool.not_true, Bool.not_false, Bool.false_eq_true, Bool.true_eq_false] at * <;> omega))
    · -- no
     refine vc_skip ?_
     refine vc_region ?_
     refine vy a_move ?_
     refine vy (a_bin (hr := by first | exact pr_add (by first | exact wrap64 _ (by (first | omega | (simp only [List.length_map, List.length_append, List.length_nil, List.length_cons]; omega))) | rfl) | exact pr_cat (by (first | omega | (simp only [List.length_map, List.length_append, List.length_nil, List.length_cons]; omega))))) ?_
     refine vy a_assign ?_
     refine vl_nil ?_
     refine ⟨_, ?_, (k + 1), ⟨lt_len hp, any_next hp hi.1 (by simp_all), hi.2⟩, rfl, ?_⟩
     · --
      have := lt_len hp; omega
     · --
      repeat (first | exact sub_keep_nil | refine su ?_ | refine sk ?_)
   · -- no
    refine vc_exit ?_
    refine vc_then ?_
    refine vc_region ?_
    refine vy a_assign ?_
    refine vl_nil ?_
    refine vc_ret ?_
    refine fin ?_
    simp only [fitsL, fits, C.asD, and_true]
    all_goals (refine scb ?_; first | (have hh := any_hit hp ‹heavyF p = true›; unfold heavyS; rw [hh, Bool.or_true]; done) | (have hh := any_end (past_end (by assumption)) hi.1; unfold heavyS; rw [hh, Bool.or_false]; symm; simp only [decide_eq_true_eq, decide_eq_false_iff_not, Bool.not_eq_true', Bool.not_eq_false', Bool.and_eq_true, Bool.or_eq_true, Bool.or_eq_false_iff, Bool.and_eq_false_iff, beq_iff_eq, beq_eq_false_iff_ne, ne_eq, Bool.not_true, Bool.not_false, Bool.false_eq_true, Bool.true_eq_false] at * <;> omega) | (symm; unfold heavyS; simp only [decide_eq_true_eq, decide_eq_false_iff_not, Bool.not_eq_true', Bool.not_eq_false', Bool.and_eq_true, Bool.or_eq_true, Bool.or_eq_false_iff, Bool.and_eq_false_iff, beq_iff_eq, beq_eq_false_iff_ne, ne_eq, Bool.not_true, Bool.not_false, Bool.false_eq_true, Bool.true_eq_false] at * <;> omega))
end Go.Vm
