/- The walks of schemas. Printed by lens_schema.py. -/
import Derived.Test.YthkgbmekiclgmaaLnLensP
import Derived.Test.YthkgbmekiclgmaaVmB
namespace Go.Vm
open Go.RowKit Go.Proofs
set_option linter.unusedVariables false
set_option linter.unusedSimpArgs false
set_option maxRecDepth 10000

theorem take_next {α : Type} {l : List α} {k : Nat} {p : α} (hp : l[k]? = some p) : l.take (k + 1) = l.take k ++ [p] := by rw [List.take_add_one, hp]; rfl
theorem snoc_map {α β : Type} {g : α → β} {A : List α} {x : α} : A.map g ++ [g x] = (A ++ [x]).map g := by simp
theorem one_map {α β : Type} {g : α → β} {x : α} : [g x] = [x].map g := rfl
theorem fD_wide {f : FieldD} : ∀ x ∈ [fD f], x.cells.length = 7 := by intro x hx; rw [List.mem_singleton.1 hx]; rfl
theorem filter_next {l : List FieldD} {r : RefD} {k : Nat} {p : FieldD} (hp : l[k]? = some p) : delF (l.take (k + 1)) r = delF (l.take k) r ++ (if p.at_ = r then [] else [p]) := by
  unfold delF
  rw [take_next hp, List.filter_append]
  by_cases e : p.at_ = r <;> simp [e]
theorem length_take_le {α : Type} {l : List α} {k n : Nat} (h : l.length ≤ n) : (l.take k).length ≤ n := by rw [List.length_take]; omega
theorem length_del_le {l : List FieldD} {r : RefD} {k n : Nat} (h : l.length ≤ n) : (delF (l.take k) r).length ≤ n := by
  have := List.length_filter_le (fun f => !decide (f.at_ = r)) (l.take k)
  have h2 := length_take_le (k := k) h
  unfold delF; omega
theorem find_no {l : List FieldD} {r : RefD} (h : indexS l r < 0) : findS l r = (noField, 6) := by unfold findS; rw [if_pos h]
theorem find_yes {l : List FieldD} {r : RefD} (h : ¬ indexS l r < 0) : findS l r = (fieldAt l r, 0) := by unfold findS; rw [if_neg h]
theorem fieldAt_ix {l : List FieldD} {r : RefD} (h : ¬ indexS l r < 0) : (l.map fD)[(indexS l r).toNat]? = some (fD (fieldAt l r)) := by
  rcases indexS_cases l r with ⟨h', _⟩ | ⟨k, p, h', hp, e, _⟩
  · omega
  · unfold fieldAt; rw [h', Int.toNat_natCast, hp, List.getElem?_map, hp]; rfl
theorem fieldAt_ok {l : List FieldD} {r : RefD} (ho : okL l) (h : ¬ indexS l r < 0) : (fieldAt l r).cases.length ≤ 1000000 := ho.2 _ (fieldAt_spec h).1
theorem index_bound {l : List FieldD} {r : RefD} : indexS l r < l.length := by
  rcases indexS_cases l r with ⟨h', _⟩ | ⟨k, p, h', hp, e, _⟩
  · omega
  · have := lt_len hp; omega
theorem pr_add1 {P : Program} {t : TypeId} {x y : Operand} {n : Nat} (h : n + 1 ≤ 9223372036854775807) : pureRun P (do eqGuard .add t x y (.int .i64 (n : Int)) (.int .i64 1); binOp .add t (.int .i64 (n : Int)) (.int .i64 1) : Sem Value) = some (.int .i64 ((n + 1 : Nat) : Int)) := pr_add (wrap64 _ (by omega))
theorem pr_sub1 {P : Program} {t : TypeId} {x y : Operand} {n : Nat} (h : 1 ≤ n) (h2 : n ≤ 9223372036854775807) : pureRun P (do eqGuard .sub t x y (.int .i64 (n : Int)) (.int .i64 1); binOp .sub t (.int .i64 (n : Int)) (.int .i64 1) : Sem Value) = some (.int .i64 ((n - 1 : Nat) : Int)) := pr_sub (by rw [wrap64 _ (by omega)]; omega)
theorem same_next {l m : List FieldD} {p q : FieldD} {k : Nat} (hp : l[k]? = some p) (hq : m[k]? = some q) (h : l.take k = m.take k) (hn : p = q) : l.take (k + 1) = m.take (k + 1) := take_eq_next hp hq h hn
/-- The place at which an index stands is the one that goes. -/
theorem gone_iff {l : List FieldD} {r : RefD} (hr : rightS l = true) (h : ¬ indexS l r < 0) {k : Nat} {p : FieldD} (hp : l[k]? = some p) : (((k : Nat) : Int) = indexS l r) ↔ p.at_ = r := by
  rcases indexS_cases l r with ⟨h', _⟩ | ⟨j, q, h', hq, e, _⟩
  · omega
  · rw [h']
    constructor
    · intro h; obtain rfl : k = j := by omega
      rw [hp] at hq; injection hq with hq; rw [hq]; exact e
    · intro h; have := rightS_uniq hr hp hq (h.trans e.symm); omega
theorem row_inj {a b : List D} (h : a = b) : D.row a = D.row b := by rw [h]

set_option maxHeartbeats 1000000 in
theorem schemaRight_any (l : List FieldD) (ho : okL l) : Contract Try.prog 18 [.row (l.map fD)] [.d (.sc (.bool (rightS l)))] := by
 refine fn_of (N := 33) [.tmp 2] Try.func18 ?_
 simp only [envUp, Nat.zero_add, Nat.reduceAdd]
 refine vc_then ?_
 refine vc_region ?_
 refine vy a_assign ?_
 refine vl_nil ?_
 refine vc_then ?_
 refine vc_then ?_
 refine vc_region ?_
 refine vy a_move ?_
 refine vy (a_len (hT := T.es_22)) ?_
 refine vy (a_bin (hr := by first | exact pr_gtr)) ?_
 refine vl_nil ?_
 refine vif (fun hc1 => ?_) (fun hc1 => ?_)
 · -- yes
  refine vc_then ?_
  refine vc_region ?_
  refine vy a_assign ?_
  refine vl_nil ?_
  refine vc_ret ?_
  refine fin ?_
  simp only [fitsL, fits, C.asD, and_true]
  all_goals (refine scb ?_; first | (refine (rightS_long ?_).symm; (simp only [decide_eq_true_eq, decide_eq_false_iff_not, Bool.not_eq_true', Bool.not_eq_false', Bool.and_eq_true, Bool.or_eq_true, Bool.or_eq_false_iff, Bool.and_eq_false_iff, beq_iff_eq, beq_eq_false_iff_ne, ne_eq, Bool.not_true, Bool.not_false, Bool.false_eq_true, Bool.true_eq_false] at * <;> omega); done) | (refine (rightS_no hp ?_).symm; simp_all; done) | (refine (rightS_un hp hq ?_ ?_).symm <;> first | (simp only [decide_eq_true_eq, decide_eq_false_iff_not, Bool.not_eq_true', Bool.not_eq_false', Bool.and_eq_true, Bool.or_eq_true, Bool.or_eq_false_iff, Bool.and_eq_false_iff, beq_iff_eq, beq_eq_false_iff_ne, ne_eq, Bool.not_true, Bool.not_false, Bool.false_eq_true, Bool.true_eq_false] at * <;> omega) | (simp_all; done)) | exact (rightS_yes hi.2 (past_end (by assumption)) hi.1).symm)
 · -- no
  have h16 : l.length ≤ 16 := by (simp only [decide_eq_true_eq, decide_eq_false_iff_not, Bool.not_eq_true', Bool.not_eq_false', Bool.and_eq_true, Bool.or_eq_true, Bool.or_eq_false_iff, Bool.and_eq_false_iff, beq_iff_eq, beq_eq_false_iff_ne, ne_eq, Bool.not_true, Bool.not_false, Bool.false_eq_true, Bool.true_eq_false] at * <;> omega)
  refine vc_skip ?_
  refine vc_then ?_
  refine vc_then ?_
  refine vc_region ?_
  refine vy a_move ?_
  refine vy (a_len (hT := T.es_22)) ?_
  refine vy a_move ?_
  refine vl_nil ?_
  refine vc_block ?_
  refine vk [0, 8, 9] (fun (k : Nat) e => upd (e) (some 10) (.c (.d (.sc (.int .i64 (k : Nat)))))) (fun k => k ≤ l.length ∧ okSk l k = true ∧ l.length ≤ 16) (fun k => l.length - k) 0 ⟨Nat.zero_le _, ⟨okSk_zero l, h16⟩⟩ ?_ ?_
  · --
   repeat (first | exact sub_keep_nil | refine su ?_ | refine sk ?_)
  · --
   rintro k ⟨hk, hi⟩
   refine vc_then ?_
   refine vc_region ?_
   refine vy (a_bin (hr := by first | exact pr_lss | exact pr_lts)) ?_
   refine vl_nil ?_
   refine vc_then ?_
   refine vif (fun hc2 => ?_) (fun hc2 => ?_)
   · -- yes
    obtain ⟨p, hp⟩ := elem_at hc2
    have hkl := lt_len hp
    obtain ⟨q, hq⟩ := prev_at hp
    have hok := ho.at hp
    refine vc_skip ?_
    refine vc_then ?_
    refine vc_block ?_
    refine vc_then ?_
    refine vc_region ?_
    refine vy a_move ?_
    refine vy (a_ix (hT := T.es_22) (h0 := by first | omega | decide) (hy := by first | exact map_at hp | exact map_prev' hq (by (simp only [decide_eq_true_eq, decide_eq_false_iff_not, Bool.not_eq_true', Bool.not_eq_false', Bool.and_eq_true, Bool.or_eq_true, Bool.or_eq_false_iff, Bool.and_eq_false_iff, beq_iff_eq, beq_eq_false_iff_ne, ne_eq, Bool.not_true, Bool.not_false, Bool.false_eq_true, Bool.true_eq_false] at * <;> omega)))) ?_
    first | refine vy (k_ldr T.ts_27) ?_ | refine vy (k_lda T.ts_27) ?_
    refine vs (b_alloc (hz := T.zo_27)) ?_
    refine vy a_assign ?_
    refine vs (b_store T.ts_27) ?_
    refine vl_nil ?_
    refine vc_then ?_
    refine vc_then ?_
    refine vc_region ?_
    first | refine vy (k_ldr T.ts_27) ?_ | refine vy (k_lda T.ts_27) ?_
    refine vy (a_call (hf := T.en_75) (hc := by exact fieldRight_any p hok)) ?_
    refine vy a_not ?_
    refine vl_nil ?_
    refine vif (fun hc3 => ?_) (fun hc3 => ?_)
    · -- yes
     refine vc_then ?_
     refine vc_region ?_
     refine vy a_assign ?_
     refine vl_nil ?_
     refine vc_ret ?_
     refine fin ?_
     simp only [fitsL, fits, C.asD, and_true]
     all_goals (refine scb ?_; first | (refine (rightS_long ?_).symm; (simp only [decide_eq_true_eq, decide_eq_false_iff_not, Bool.not_eq_true', Bool.not_eq_false', Bool.and_eq_true, Bool.or_eq_true, Bool.or_eq_false_iff, Bool.and_eq_false_iff, beq_iff_eq, beq_eq_false_iff_ne, ne_eq, Bool.not_true, Bool.not_false, Bool.false_eq_true, Bool.true_eq_false] at * <;> omega); done) | (refine (rightS_no hp ?_).symm; simp_all; done) | (refine (rightS_un hp hq ?_ ?_).symm <;> first | (simp only [decide_eq_true_eq, decide_eq_false_iff_not, Bool.not_eq_true', Bool.not_eq_false', Bool.and_eq_true, Bool.or_eq_true, Bool.or_eq_false_iff, Bool.and_eq_false_iff, beq_iff_eq, beq_eq_false_iff_ne, ne_eq, Bool.not_true, Bool.not_false, Bool.false_eq_true, Bool.true_eq_false] at * <;> omega) | (simp_all; done)) | exact (rightS_yes hi.2 (past_end (by assumption)) hi.1).symm)
    · -- no
     refine vc_skip ?_
     refine vc_then ?_
     refine vc_drawn0 T.mixed ?_
     refine qy a_move ?_
     refine qy (a_bin (hr := by first | exact pr_gtr)) ?_
     refine qy a_move ?_
     refine qb 20 (fun hg4 => ?_) (fun hg4 => ?_)
     · -- guard yes
      have hk0 : 0 < k := by (simp only [decide_eq_true_eq, decide_eq_false_iff_not, Bool.not_eq_true', Bool.not_eq_false', Bool.and_eq_true, Bool.or_eq_true, Bool.or_eq_false_iff, Bool.and_eq_false_iff, beq_iff_eq, beq_eq_false_iff_ne, ne_eq, Bool.not_true, Bool.not_false, Bool.false_eq_true, Bool.true_eq_false] at * <;> omega)
      refine qy a_move ?_
      refine qy a_move ?_
      refine qy (a_bin (hr := by first | exact pr_sub (by first | exact wrap64 _ (by (first | omega | (simp only [List.length_map, List.length_append, List.length_nil, List.length_cons]; omega))) | rfl))) ?_
      refine qy (a_ix (hT := T.es_22) (h0 := by first | omega | decide) (hy := by first | exact map_at hp | exact map_prev' hq (by (simp only [decide_eq_true_eq, decide_eq_false_iff_not, Bool.not_eq_true', Bool.not_eq_false', Bool.and_eq_true, Bool.or_eq_true, Bool.or_eq_false_iff, Bool.and_eq_false_iff, beq_iff_eq, beq_eq_false_iff_ne, ne_eq, Bool.not_true, Bool.not_false, Bool.false_eq_true, Bool.true_eq_false] at * <;> omega)))) ?_
      first | refine qy (a_fr (hf := T.fo_27_0)) ?_ | refine qy (a_fa (hf := T.fo_27_0)) ?_
      first | refine qy (k_ldr T.ts_24) ?_ | refine qy (k_lda T.ts_24) ?_
      first | refine qy (a_fr (hf := T.fo_27_0)) ?_ | refine qy (a_fa (hf := T.fo_27_0)) ?_
      first | refine qy (k_ldr T.ts_24) ?_ | refine qy (k_lda T.ts_24) ?_
      refine qy (a_call (hf := T.en_76) (hc := by exact less_any _ _)) ?_
      refine qy a_not ?_
      refine qy a_pick ?_
      show _
      refine vif (fun hc5 => ?_) (fun hc5 => ?_)
      · -- yes
       refine vc_then ?_
       refine vc_region ?_
       refine vy a_assign ?_
       refine vl_nil ?_
       refine vc_ret ?_
       refine fin ?_
       simp only [fitsL, fits, C.asD, and_true]
       all_goals (refine scb ?_; first | (refine (rightS_long ?_).symm; (simp only [decide_eq_true_eq, decide_eq_false_iff_not, Bool.not_eq_true', Bool.not_eq_false', Bool.and_eq_true, Bool.or_eq_true, Bool.or_eq_false_iff, Bool.and_eq_false_iff, beq_iff_eq, beq_eq_false_iff_ne, ne_eq, Bool.not_true, Bool.not_false, Bool.false_eq_true, Bool.true_eq_false] at * <;> omega); done) | (refine (rightS_no hp ?_).symm; simp_all; done) | (refine (rightS_un hp hq ?_ ?_).symm <;> first | (simp only [decide_eq_true_eq, decide_eq_false_iff_not, Bool.not_eq_true', Bool.not_eq_false', Bool.and_eq_true, Bool.or_eq_true, Bool.or_eq_false_iff, Bool.and_eq_false_iff, beq_iff_eq, beq_eq_false_iff_ne, ne_eq, Bool.not_true, Bool.not_false, Bool.false_eq_true, Bool.true_eq_false] at * <;> omega) | (simp_all; done)) | exact (rightS_yes hi.2 (past_end (by assumption)) hi.1).symm)
      · -- no
       refine vc_skip ?_
       refine vc_region ?_
       refine vy (a_bin (hr := by first | exact pr_add (by first | exact wrap64 _ (by (first | omega | (simp only [List.length_map, List.length_append, List.length_nil, List.length_cons]; omega))) | rfl) | exact pr_cat (by (first | omega | (simp only [List.length_map, List.length_append, List.length_nil, List.length_cons]; omega))))) ?_
       refine vy a_move ?_
       refine vl_nil ?_
       refine ⟨_, ?_, (k + 1), ⟨lt_len hp, (by first | (refine okSk_next hp hq hi.1 ?_ ?_ <;> simp_all; done) | (have h0 : k = 0 := (by (simp only [decide_eq_true_eq, decide_eq_false_iff_not, Bool.not_eq_true', Bool.not_eq_false', Bool.and_eq_true, Bool.or_eq_true, Bool.or_eq_false_iff, Bool.and_eq_false_iff, beq_iff_eq, beq_eq_false_iff_ne, ne_eq, Bool.not_true, Bool.not_false, Bool.false_eq_true, Bool.true_eq_false] at * <;> omega)); subst h0; exact okSk_first hp hi.1 (by simp_all))), hi.2⟩, rfl, ?_⟩
       · --
        have := lt_len hp; omega
       · --
        repeat (first | exact sub_keep_nil | refine su ?_ | refine sk ?_)
     · -- guard no
      refine qn ?_
      refine qn ?_
      refine qn ?_
      refine qn ?_
      refine qn ?_
      refine qn ?_
      refine qn ?_
      refine qn ?_
      refine qn ?_
      refine qn ?_
      refine qy a_pick ?_
      show _
      refine vif (fun hc6 => ?_) (fun hc6 => ?_)
      · -- yes
       first | (exfalso; have hdead := hc6; simp at hdead <;> omega) | (exfalso; simp_all; done)
      · -- no
       refine vc_skip ?_
       refine vc_region ?_
       refine vy (a_bin (hr := by first | exact pr_add (by first | exact wrap64 _ (by (first | omega | (simp only [List.length_map, List.length_append, List.length_nil, List.length_cons]; omega))) | rfl) | exact pr_cat (by (first | omega | (simp only [List.length_map, List.length_append, List.length_nil, List.length_cons]; omega))))) ?_
       refine vy a_move ?_
       refine vl_nil ?_
       refine ⟨_, ?_, (k + 1), ⟨lt_len hp, (by first | (refine okSk_next hp hq hi.1 ?_ ?_ <;> simp_all; done) | (have h0 : k = 0 := (by (simp only [decide_eq_true_eq, decide_eq_false_iff_not, Bool.not_eq_true', Bool.not_eq_false', Bool.and_eq_true, Bool.or_eq_true, Bool.or_eq_false_iff, Bool.and_eq_false_iff, beq_iff_eq, beq_eq_false_iff_ne, ne_eq, Bool.not_true, Bool.not_false, Bool.false_eq_true, Bool.true_eq_false] at * <;> omega)); subst h0; exact okSk_first hp hi.1 (by simp_all))), hi.2⟩, rfl, ?_⟩
       · --
        have := lt_len hp; omega
       · --
        repeat (first | exact sub_keep_nil | refine su ?_ | refine sk ?_)
   · -- no
    refine vc_exit ?_
    refine vc_then ?_
    refine vc_region ?_
    refine vy a_assign ?_
    refine vl_nil ?_
    refine vc_ret ?_
    refine fin ?_
    simp only [fitsL, fits, C.asD, and_true]
    all_goals (refine scb ?_; first | (refine (rightS_long ?_).symm; (simp only [decide_eq_true_eq, decide_eq_false_iff_not, Bool.not_eq_true', Bool.not_eq_false', Bool.and_eq_true, Bool.or_eq_true, Bool.or_eq_false_iff, Bool.and_eq_false_iff, beq_iff_eq, beq_eq_false_iff_ne, ne_eq, Bool.not_true, Bool.not_false, Bool.false_eq_true, Bool.true_eq_false] at * <;> omega); done) | (refine (rightS_no hp ?_).symm; simp_all; done) | (refine (rightS_un hp hq ?_ ?_).symm <;> first | (simp only [decide_eq_true_eq, decide_eq_false_iff_not, Bool.not_eq_true', Bool.not_eq_false', Bool.and_eq_true, Bool.or_eq_true, Bool.or_eq_false_iff, Bool.and_eq_false_iff, beq_iff_eq, beq_eq_false_iff_ne, ne_eq, Bool.not_true, Bool.not_false, Bool.false_eq_true, Bool.true_eq_false] at * <;> omega) | (simp_all; done)) | exact (rightS_yes hi.2 (past_end (by assumption)) hi.1).symm)

set_option maxHeartbeats 1000000 in
theorem refSchemaRight_any (l : List FieldD) (ho : okL l) : Contract Try.prog 19 [.row (l.map fD)] [.d (.sc (.bool (rightS l)))] := by
 refine fn_of (N := 38) [.tmp 2] Try.func19 ?_
 simp only [envUp, Nat.zero_add, Nat.reduceAdd]
 refine vc_then ?_
 refine vc_region ?_
 refine vy a_assign ?_
 refine vl_nil ?_
 refine vc_then ?_
 refine vc_then ?_
 refine vc_region ?_
 refine vy a_move ?_
 refine vy (a_len (hT := T.es_22)) ?_
 refine vy (a_bin (hr := by first | exact pr_gtr)) ?_
 refine vl_nil ?_
 refine vif (fun hc1 => ?_) (fun hc1 => ?_)
 · -- yes
  refine vc_then ?_
  refine vc_region ?_
  refine vy a_assign ?_
  refine vl_nil ?_
  refine vc_ret ?_
  refine fin ?_
  simp only [fitsL, fits, C.asD, and_true]
  all_goals (refine scb ?_; first | (refine (rightS_long ?_).symm; (simp only [decide_eq_true_eq, decide_eq_false_iff_not, Bool.not_eq_true', Bool.not_eq_false', Bool.and_eq_true, Bool.or_eq_true, Bool.or_eq_false_iff, Bool.and_eq_false_iff, beq_iff_eq, beq_eq_false_iff_ne, ne_eq, Bool.not_true, Bool.not_false, Bool.false_eq_true, Bool.true_eq_false] at * <;> omega); done) | (refine (rightS_no hp ?_).symm; simp_all; done) | (refine (rightS_un hp hq ?_ ?_).symm <;> first | (simp only [decide_eq_true_eq, decide_eq_false_iff_not, Bool.not_eq_true', Bool.not_eq_false', Bool.and_eq_true, Bool.or_eq_true, Bool.or_eq_false_iff, Bool.and_eq_false_iff, beq_iff_eq, beq_eq_false_iff_ne, ne_eq, Bool.not_true, Bool.not_false, Bool.false_eq_true, Bool.true_eq_false] at * <;> omega) | (simp_all; done)) | exact (rightS_yes hi.2 (past_end (by assumption)) hi.1).symm)
 · -- no
  have h16 : l.length ≤ 16 := by (simp only [decide_eq_true_eq, decide_eq_false_iff_not, Bool.not_eq_true', Bool.not_eq_false', Bool.and_eq_true, Bool.or_eq_true, Bool.or_eq_false_iff, Bool.and_eq_false_iff, beq_iff_eq, beq_eq_false_iff_ne, ne_eq, Bool.not_true, Bool.not_false, Bool.false_eq_true, Bool.true_eq_false] at * <;> omega)
  refine vc_skip ?_
  refine vc_then ?_
  refine vc_then ?_
  refine vc_region ?_
  refine vy a_assign ?_
  refine vl_nil ?_
  refine vc_block ?_
  refine vk [0] (fun (k : Nat) e => upd (e) (some 3) (.c (.d (.sc (.int .i64 (k : Nat)))))) (fun k => k ≤ l.length ∧ okSk l k = true ∧ l.length ≤ 16) (fun k => l.length - k) 0 ⟨Nat.zero_le _, ⟨okSk_zero l, h16⟩⟩ ?_ ?_
  · --
   repeat (first | exact sub_keep_nil | refine su ?_ | refine sk ?_)
  · --
   rintro k ⟨hk, hi⟩
   refine vc_then ?_
   refine vc_then ?_
   refine vc_region ?_
   refine vy a_move ?_
   refine vy a_move ?_
   refine vy (a_len (hT := T.es_22)) ?_
   refine vy (a_bin (hr := by first | exact pr_lss | exact pr_lts)) ?_
   refine vl_nil ?_
   refine vif (fun hc2 => ?_) (fun hc2 => ?_)
   · -- yes
    obtain ⟨p, hp⟩ := elem_at hc2
    have hkl := lt_len hp
    obtain ⟨q, hq⟩ := prev_at hp
    have hok := ho.at hp
    refine vc_skip ?_
    refine vc_then ?_
    refine vc_block ?_
    refine vc_then ?_
    refine vc_drawn0 T.mixed ?_
    refine qy a_move ?_
    refine qy a_move ?_
    refine qy (a_ix (hT := T.es_22) (h0 := by first | omega | decide) (hy := by first | exact map_at hp | exact map_prev' hq (by (simp only [decide_eq_true_eq, decide_eq_false_iff_not, Bool.not_eq_true', Bool.not_eq_false', Bool.and_eq_true, Bool.or_eq_true, Bool.or_eq_false_iff, Bool.and_eq_false_iff, beq_iff_eq, beq_eq_false_iff_ne, ne_eq, Bool.not_true, Bool.not_false, Bool.false_eq_true, Bool.true_eq_false] at * <;> omega)))) ?_
    first | refine qy (k_ldr T.ts_27) ?_ | refine qy (k_lda T.ts_27) ?_
    refine qy (a_call (hf := T.en_77) (hc := by exact refFieldRight_any p hok)) ?_
    refine qy a_not ?_
    refine qy a_move ?_
    refine qb 19 (fun hg3 => ?_) (fun hg3 => ?_)
    · -- guard yes
     refine qn ?_
     refine qn ?_
     refine qn ?_
     refine qn ?_
     refine qn ?_
     refine qn ?_
     refine qn ?_
     refine qn ?_
     refine qn ?_
     refine qn ?_
     refine qn ?_
     refine qn ?_
     refine qn ?_
     refine qn ?_
     refine qn ?_
     refine qn ?_
     refine qn ?_
     refine qy a_pick ?_
     show _
     refine vif (fun hc4 => ?_) (fun hc4 => ?_)
     · -- yes
      refine vc_then ?_
      refine vc_region ?_
      refine vy a_assign ?_
      refine vl_nil ?_
      refine vc_ret ?_
      refine fin ?_
      simp only [fitsL, fits, C.asD, and_true]
      all_goals (refine scb ?_; first | (refine (rightS_long ?_).symm; (simp only [decide_eq_true_eq, decide_eq_false_iff_not, Bool.not_eq_true', Bool.not_eq_false', Bool.and_eq_true, Bool.or_eq_true, Bool.or_eq_false_iff, Bool.and_eq_false_iff, beq_iff_eq, beq_eq_false_iff_ne, ne_eq, Bool.not_true, Bool.not_false, Bool.false_eq_true, Bool.true_eq_false] at * <;> omega); done) | (refine (rightS_no hp ?_).symm; simp_all; done) | (refine (rightS_un hp hq ?_ ?_).symm <;> first | (simp only [decide_eq_true_eq, decide_eq_false_iff_not, Bool.not_eq_true', Bool.not_eq_false', Bool.and_eq_true, Bool.or_eq_true, Bool.or_eq_false_iff, Bool.and_eq_false_iff, beq_iff_eq, beq_eq_false_iff_ne, ne_eq, Bool.not_true, Bool.not_false, Bool.false_eq_true, Bool.true_eq_false] at * <;> omega) | (simp_all; done)) | exact (rightS_yes hi.2 (past_end (by assumption)) hi.1).symm)
     · -- no
      first | (exfalso; have hdead := hc4; simp at hdead <;> omega) | (exfalso; simp_all; done)
    · -- guard no
     refine qy a_move ?_
     refine qy (a_bin (hr := by first | exact pr_gtr)) ?_
     refine qy a_move ?_
     refine qb 22 (fun hg5 => ?_) (fun hg5 => ?_)
     · -- guard yes
      have hk0 : 0 < k := by (simp only [decide_eq_true_eq, decide_eq_false_iff_not, Bool.not_eq_true', Bool.not_eq_false', Bool.and_eq_true, Bool.or_eq_true, Bool.or_eq_false_iff, Bool.and_eq_false_iff, beq_iff_eq, beq_eq_false_iff_ne, ne_eq, Bool.not_true, Bool.not_false, Bool.false_eq_true, Bool.true_eq_false] at * <;> omega)
      refine qy a_move ?_
      refine qy a_move ?_
      refine qy (a_bin (hr := by first | exact pr_sub (by first | exact wrap64 _ (by (first | omega | (simp only [List.length_map, List.length_append, List.length_nil, List.length_cons]; omega))) | rfl))) ?_
      refine qy (a_ix (hT := T.es_22) (h0 := by first | omega | decide) (hy := by first | exact map_at hp | exact map_prev' hq (by (simp only [decide_eq_true_eq, decide_eq_false_iff_not, Bool.not_eq_true', Bool.not_eq_false', Bool.and_eq_true, Bool.or_eq_true, Bool.or_eq_false_iff, Bool.and_eq_false_iff, beq_iff_eq, beq_eq_false_iff_ne, ne_eq, Bool.not_true, Bool.not_false, Bool.false_eq_true, Bool.true_eq_false] at * <;> omega)))) ?_
      first | refine qy (a_fr (hf := T.fo_27_0)) ?_ | refine qy (a_fa (hf := T.fo_27_0)) ?_
      first | refine qy (k_ldr T.ts_24) ?_ | refine qy (k_lda T.ts_24) ?_
      refine qy a_move ?_
      refine qy a_move ?_
      refine qy (a_ix (hT := T.es_22) (h0 := by first | omega | decide) (hy := by first | exact map_at hp | exact map_prev' hq (by (simp only [decide_eq_true_eq, decide_eq_false_iff_not, Bool.not_eq_true', Bool.not_eq_false', Bool.and_eq_true, Bool.or_eq_true, Bool.or_eq_false_iff, Bool.and_eq_false_iff, beq_iff_eq, beq_eq_false_iff_ne, ne_eq, Bool.not_true, Bool.not_false, Bool.false_eq_true, Bool.true_eq_false] at * <;> omega)))) ?_
      first | refine qy (a_fr (hf := T.fo_27_0)) ?_ | refine qy (a_fa (hf := T.fo_27_0)) ?_
      first | refine qy (k_ldr T.ts_24) ?_ | refine qy (k_lda T.ts_24) ?_
      refine qy (a_call (hf := T.en_78) (hc := by exact refLess_any _ _)) ?_
      refine qy a_not ?_
      refine qy a_pick ?_
      refine qy a_pick ?_
      show _
      refine vif (fun hc6 => ?_) (fun hc6 => ?_)
      · -- yes
       refine vc_then ?_
       refine vc_region ?_
       refine vy a_assign ?_
       refine vl_nil ?_
       refine vc_ret ?_
       refine fin ?_
       simp only [fitsL, fits, C.asD, and_true]
       all_goals (refine scb ?_; first | (refine (rightS_long ?_).symm; (simp only [decide_eq_true_eq, decide_eq_false_iff_not, Bool.not_eq_true', Bool.not_eq_false', Bool.and_eq_true, Bool.or_eq_true, Bool.or_eq_false_iff, Bool.and_eq_false_iff, beq_iff_eq, beq_eq_false_iff_ne, ne_eq, Bool.not_true, Bool.not_false, Bool.false_eq_true, Bool.true_eq_false] at * <;> omega); done) | (refine (rightS_no hp ?_).symm; simp_all; done) | (refine (rightS_un hp hq ?_ ?_).symm <;> first | (simp only [decide_eq_true_eq, decide_eq_false_iff_not, Bool.not_eq_true', Bool.not_eq_false', Bool.and_eq_true, Bool.or_eq_true, Bool.or_eq_false_iff, Bool.and_eq_false_iff, beq_iff_eq, beq_eq_false_iff_ne, ne_eq, Bool.not_true, Bool.not_false, Bool.false_eq_true, Bool.true_eq_false] at * <;> omega) | (simp_all; done)) | exact (rightS_yes hi.2 (past_end (by assumption)) hi.1).symm)
      · -- no
       refine vc_skip ?_
       refine vc_region ?_
       refine vy a_move ?_
       refine vy (a_bin (hr := by first | exact pr_add (by first | exact wrap64 _ (by (first | omega | (simp only [List.length_map, List.length_append, List.length_nil, List.length_cons]; omega))) | rfl) | exact pr_cat (by (first | omega | (simp only [List.length_map, List.length_append, List.length_nil, List.length_cons]; omega))))) ?_
       refine vy a_assign ?_
       refine vl_nil ?_
       refine ⟨_, ?_, (k + 1), ⟨lt_len hp, (by first | (refine okSk_next hp hq hi.1 ?_ ?_ <;> simp_all; done) | (have h0 : k = 0 := (by (simp only [decide_eq_true_eq, decide_eq_false_iff_not, Bool.not_eq_true', Bool.not_eq_false', Bool.and_eq_true, Bool.or_eq_true, Bool.or_eq_false_iff, Bool.and_eq_false_iff, beq_iff_eq, beq_eq_false_iff_ne, ne_eq, Bool.not_true, Bool.not_false, Bool.false_eq_true, Bool.true_eq_false] at * <;> omega)); subst h0; exact okSk_first hp hi.1 (by simp_all))), hi.2⟩, rfl, ?_⟩
       · --
        have := lt_len hp; omega
       · --
        repeat (first | exact sub_keep_nil | refine su ?_ | refine sk ?_)
     · -- guard no
      refine qn ?_
      refine qn ?_
      refine qn ?_
      refine qn ?_
      refine qn ?_
      refine qn ?_
      refine qn ?_
      refine qn ?_
      refine qn ?_
      refine qn ?_
      refine qn ?_
      refine qn ?_
      refine qn ?_
      refine qy a_pick ?_
      refine qy a_pick ?_
      show _
      refine vif (fun hc7 => ?_) (fun hc7 => ?_)
      · -- yes
       first | (exfalso; have hdead := hc7; simp at hdead <;> omega) | (exfalso; simp_all; done)
      · -- no
       refine vc_skip ?_
       refine vc_region ?_
       refine vy a_move ?_
       refine vy (a_bin (hr := by first | exact pr_add (by first | exact wrap64 _ (by (first | omega | (simp only [List.length_map, List.length_append, List.length_nil, List.length_cons]; omega))) | rfl) | exact pr_cat (by (first | omega | (simp only [List.length_map, List.length_append, List.length_nil, List.length_cons]; omega))))) ?_
       refine vy a_assign ?_
       refine vl_nil ?_
       refine ⟨_, ?_, (k + 1), ⟨lt_len hp, (by first | (refine okSk_next hp hq hi.1 ?_ ?_ <;> simp_all; done) | (have h0 : k = 0 := (by (simp only [decide_eq_true_eq, decide_eq_false_iff_not, Bool.not_eq_true', Bool.not_eq_false', Bool.and_eq_true, Bool.or_eq_true, Bool.or_eq_false_iff, Bool.and_eq_false_iff, beq_iff_eq, beq_eq_false_iff_ne, ne_eq, Bool.not_true, Bool.not_false, Bool.false_eq_true, Bool.true_eq_false] at * <;> omega)); subst h0; exact okSk_first hp hi.1 (by simp_all))), hi.2⟩, rfl, ?_⟩
       · --
        have := lt_len hp; omega
       · --
        repeat (first | exact sub_keep_nil | refine su ?_ | refine sk ?_)
   · -- no
    refine vc_exit ?_
    refine vc_then ?_
    refine vc_region ?_
    refine vy a_assign ?_
    refine vl_nil ?_
    refine vc_ret ?_
    refine fin ?_
    simp only [fitsL, fits, C.asD, and_true]
    all_goals (refine scb ?_; first | (refine (rightS_long ?_).symm; (simp only [decide_eq_true_eq, decide_eq_false_iff_not, Bool.not_eq_true', Bool.not_eq_false', Bool.and_eq_true, Bool.or_eq_true, Bool.or_eq_false_iff, Bool.and_eq_false_iff, beq_iff_eq, beq_eq_false_iff_ne, ne_eq, Bool.not_true, Bool.not_false, Bool.false_eq_true, Bool.true_eq_false] at * <;> omega); done) | (refine (rightS_no hp ?_).symm; simp_all; done) | (refine (rightS_un hp hq ?_ ?_).symm <;> first | (simp only [decide_eq_true_eq, decide_eq_false_iff_not, Bool.not_eq_true', Bool.not_eq_false', Bool.and_eq_true, Bool.or_eq_true, Bool.or_eq_false_iff, Bool.and_eq_false_iff, beq_iff_eq, beq_eq_false_iff_ne, ne_eq, Bool.not_true, Bool.not_false, Bool.false_eq_true, Bool.true_eq_false] at * <;> omega) | (simp_all; done)) | exact (rightS_yes hi.2 (past_end (by assumption)) hi.1).symm)

set_option maxHeartbeats 1000000 in
theorem schemaIndex_any (l : List FieldD) (r : RefD) (hl : l.length ≤ 1000) : Contract Try.prog 80 [.row (l.map fD), rD r] [.d (.sc (.int .i64 (indexS l r)))] := by
 refine fn_of (N := 20) [.tmp 4] Try.func80 ?_
 simp only [envUp, Nat.zero_add, Nat.reduceAdd]
 refine vc_then ?_
 refine vc_region ?_
 refine vs b_box ?_
 refine vy a_assign ?_
 refine vl_nil ?_
 refine vc_then ?_
 refine vc_then ?_
 refine vc_region ?_
 refine vy a_move ?_
 refine vy (a_len (hT := T.es_22)) ?_
 refine vy a_move ?_
 refine vl_nil ?_
 refine vc_block ?_
 refine vk [3, 7, 8] (fun (k : Nat) e => upd (e) (some 9) (.c (.d (.sc (.int .i64 (k : Nat)))))) (fun k => k ≤ l.length ∧ ∀ j q, j < k → l[j]? = some q → ¬ q.at_ = r) (fun k => l.length - k) 0 ⟨Nat.zero_le _, fun j q hj => absurd hj (Nat.not_lt_zero _)⟩ ?_ ?_
 · --
  repeat (first | exact sub_keep_nil | refine su ?_ | refine sk ?_)
 · --
  rintro k ⟨hk, hi⟩
  refine vc_then ?_
  refine vc_region ?_
  refine vy (a_bin (hr := by first | exact pr_lss | exact pr_lts)) ?_
  refine vl_nil ?_
  refine vc_then ?_
  refine vif (fun hc1 => ?_) (fun hc1 => ?_)
  · -- yes
   obtain ⟨p, hp⟩ := elem_at hc1
   have hkl := lt_len hp
   refine vc_skip ?_
   refine vc_then ?_
   refine vc_block ?_
   refine vc_then ?_
   refine vc_region ?_
   refine vy a_move ?_
   refine vy (a_ix (hT := T.es_22) (h0 := by first | omega | decide) (hy := by exact map_at hp)) ?_
   first | refine vy (k_ldr T.ts_27) ?_ | refine vy (k_lda T.ts_27) ?_
   refine vs (b_alloc (hz := T.zo_27)) ?_
   refine vy a_assign ?_
   refine vs (b_store T.ts_27) ?_
   refine vl_nil ?_
   refine vc_then ?_
   refine vc_region ?_
   first | refine vy (a_fr (hf := T.fo_27_0)) ?_ | refine vy (a_fa (hf := T.fo_27_0)) ?_
   first | refine vy (k_ldr T.ts_24) ?_ | refine vy (k_lda T.ts_24) ?_
   first | refine vy (k_ldr T.ts_24) ?_ | refine vy (k_lda T.ts_24) ?_
   refine vy eq_24 ?_
   refine vl_nil ?_
   refine vif (fun hc2 => ?_) (fun hc2 => ?_)
   · -- yes
    refine vc_then ?_
    refine vc_region ?_
    refine vy a_move ?_
    refine vy a_assign ?_
    refine vl_nil ?_
    refine vc_ret ?_
    refine fin ?_
    simp only [fitsL, fits, C.asD, and_true]
    all_goals (first | (rw [indexS_hit hp hi (of_decide_eq_true (by assumption))]) | (rw [indexS_miss (past_end (by assumption)) hi]))
   · -- no
    refine vc_skip ?_
    refine vc_region ?_
    refine vy (a_bin (hr := by first | exact pr_add (by first | exact wrap64 _ (by (first | omega | (simp only [List.length_map, List.length_append, List.length_nil, List.length_cons]; omega))) | rfl) | exact pr_cat (by (first | omega | (simp only [List.length_map, List.length_append, List.length_nil, List.length_cons]; omega))))) ?_
    refine vy a_move ?_
    refine vl_nil ?_
    refine ⟨_, ?_, (k + 1), ⟨lt_len hp, none_next hp hi (of_decide_eq_false (by assumption))⟩, rfl, ?_⟩
    · --
     have := lt_len hp; omega
    · --
     repeat (first | exact sub_keep_nil | refine su ?_ | refine sk ?_)
  · -- no
   refine vc_exit ?_
   refine vc_then ?_
   refine vc_region ?_
   refine vy a_assign ?_
   refine vl_nil ?_
   refine vc_ret ?_
   refine fin ?_
   simp only [fitsL, fits, C.asD, and_true]
   all_goals (first | (rw [indexS_hit hp hi (of_decide_eq_true (by assumption))]) | (rw [indexS_miss (past_end (by assumption)) hi]))

set_option maxHeartbeats 1000000 in
theorem refSchemaAt_any (l : List FieldD) (r : RefD) (hl : l.length ≤ 1000) : Contract Try.prog 22 [.row (l.map fD), rD r] [.d (.sc (.int .i64 (indexS l r)))] := by
 refine fn_of (N := 20) [.tmp 4] Try.func22 ?_
 simp only [envUp, Nat.zero_add, Nat.reduceAdd]
 refine vc_then ?_
 refine vc_region ?_
 refine vs b_box ?_
 refine vy a_assign ?_
 refine vl_nil ?_
 refine vc_then ?_
 refine vc_then ?_
 refine vc_region ?_
 refine vy a_assign ?_
 refine vl_nil ?_
 refine vc_block ?_
 refine vk [0, 3] (fun (k : Nat) e => upd (e) (some 5) (.c (.d (.sc (.int .i64 (k : Nat)))))) (fun k => k ≤ l.length ∧ ∀ j q, j < k → l[j]? = some q → ¬ q.at_ = r) (fun k => l.length - k) 0 ⟨Nat.zero_le _, fun j q hj => absurd hj (Nat.not_lt_zero _)⟩ ?_ ?_
 · --
  repeat (first | exact sub_keep_nil | refine su ?_ | refine sk ?_)
 · --
  rintro k ⟨hk, hi⟩
  refine vc_then ?_
  refine vc_then ?_
  refine vc_region ?_
  refine vy a_move ?_
  refine vy a_move ?_
  refine vy (a_len (hT := T.es_22)) ?_
  refine vy (a_bin (hr := by first | exact pr_lss | exact pr_lts)) ?_
  refine vl_nil ?_
  refine vif (fun hc1 => ?_) (fun hc1 => ?_)
  · -- yes
   obtain ⟨p, hp⟩ := elem_at hc1
   have hkl := lt_len hp
   refine vc_skip ?_
   refine vc_then ?_
   refine vc_block ?_
   refine vc_then ?_
   refine vc_drawn0 T.mixed ?_
   refine qy a_move ?_
   refine qy a_move ?_
   refine qy (a_ix (hT := T.es_22) (h0 := by first | omega | decide) (hy := by exact map_at hp)) ?_
   first | refine qy (a_fr (hf := T.fo_27_0)) ?_ | refine qy (a_fa (hf := T.fo_27_0)) ?_
   first | refine qy (k_ldr T.ts_24) ?_ | refine qy (k_lda T.ts_24) ?_
   first | refine qy (k_ldr T.ts_24) ?_ | refine qy (k_lda T.ts_24) ?_
   refine qy eq_24 ?_
   show _
   refine vif (fun hc2 => ?_) (fun hc2 => ?_)
   · -- yes
    refine vc_then ?_
    refine vc_region ?_
    refine vy a_move ?_
    refine vy a_assign ?_
    refine vl_nil ?_
    refine vc_ret ?_
    refine fin ?_
    simp only [fitsL, fits, C.asD, and_true]
    all_goals (first | (rw [indexS_hit hp hi (of_decide_eq_true (by assumption))]) | (rw [indexS_miss (past_end (by assumption)) hi]))
   · -- no
    refine vc_skip ?_
    refine vc_region ?_
    refine vy a_move ?_
    refine vy (a_bin (hr := by first | exact pr_add (by first | exact wrap64 _ (by (first | omega | (simp only [List.length_map, List.length_append, List.length_nil, List.length_cons]; omega))) | rfl) | exact pr_cat (by (first | omega | (simp only [List.length_map, List.length_append, List.length_nil, List.length_cons]; omega))))) ?_
    refine vy a_assign ?_
    refine vl_nil ?_
    refine ⟨_, ?_, (k + 1), ⟨lt_len hp, none_next hp hi (of_decide_eq_false (by assumption))⟩, rfl, ?_⟩
    · --
     have := lt_len hp; omega
    · --
     repeat (first | exact sub_keep_nil | refine su ?_ | refine sk ?_)
  · -- no
   refine vc_exit ?_
   refine vc_then ?_
   refine vc_region ?_
   refine vy a_assign ?_
   refine vl_nil ?_
   refine vc_ret ?_
   refine fin ?_
   simp only [fitsL, fits, C.asD, and_true]
   all_goals (first | (rw [indexS_hit hp hi (of_decide_eq_true (by assumption))]) | (rw [indexS_miss (past_end (by assumption)) hi]))

set_option maxHeartbeats 1000000 in
theorem refSchemaSame_any (l m : List FieldD) (hl : okL l) : Contract Try.prog 17 [.row (l.map fD), .row (m.map fD)] [.d (.sc (.bool (decide (l = m))))] := by
 refine fn_of (N := 27) [.tmp 4] Try.func17 ?_
 simp only [envUp, Nat.zero_add, Nat.reduceAdd]
 have hll := hl.1
 have hml : m.length ≤ 1000 ∨ ¬ m.length ≤ 1000 := by omega
 refine vc_then ?_
 refine vc_region ?_
 refine vy a_assign ?_
 refine vl_nil ?_
 refine vc_then ?_
 refine vc_then ?_
 refine vc_region ?_
 refine vy a_move ?_
 refine vy (a_len (hT := T.es_22)) ?_
 refine vy a_move ?_
 refine vy (a_len (hT := T.es_22)) ?_
 refine vy (a_bin (hr := by first | exact pr_neq | exact pr_nes | exact pr_neb Try.underlying3)) ?_
 refine vl_nil ?_
 refine vif (fun hc1 => ?_) (fun hc1 => ?_)
 · -- yes
  refine vc_then ?_
  refine vc_region ?_
  refine vy a_assign ?_
  refine vl_nil ?_
  refine vc_ret ?_
  refine fin ?_
  simp only [fitsL, fits, C.asD, and_true]
  all_goals (refine scb ?_; first | exact (decide_eq_false (fun e => by simp_all)).symm | exact (decide_eq_false (ne_at hp hq (fun e => by simp_all))).symm | exact (decide_eq_true (take_eq_end hlen (past_end (by assumption)) hi)).symm)
 · -- no
  have hlen : l.length = m.length := by have := hc1; simp at this; omega
  refine vc_skip ?_
  refine vc_then ?_
  refine vc_then ?_
  refine vc_region ?_
  refine vy a_assign ?_
  refine vl_nil ?_
  refine vc_block ?_
  refine vk [0, 1] (fun (k : Nat) e => upd (e) (some 5) (.c (.d (.sc (.int .i64 (k : Nat)))))) (fun k => k ≤ l.length ∧ l.take k = m.take k) (fun k => l.length - k) 0 ⟨Nat.zero_le _, rfl⟩ ?_ ?_
  · --
   repeat (first | exact sub_keep_nil | refine su ?_ | refine sk ?_)
  · --
   rintro k ⟨hk, hi⟩
   refine vc_then ?_
   refine vc_then ?_
   refine vc_region ?_
   refine vy a_move ?_
   refine vy a_move ?_
   refine vy (a_len (hT := T.es_22)) ?_
   refine vy (a_bin (hr := by first | exact pr_lss | exact pr_lts)) ?_
   refine vl_nil ?_
   refine vif (fun hc2 => ?_) (fun hc2 => ?_)
   · -- yes
    obtain ⟨p, hp⟩ := elem_at hc2
    have hkl := lt_len hp
    obtain ⟨q, hq⟩ := elem_too hp hlen
    have hok := hl.at hp
    refine vc_skip ?_
    refine vc_then ?_
    refine vc_block ?_
    refine vc_then ?_
    refine vc_drawn0 T.mixed ?_
    refine qy a_move ?_
    refine qy a_move ?_
    refine qy (a_ix (hT := T.es_22) (h0 := by first | omega | decide) (hy := by first | exact map_at hp | exact map_at hq)) ?_
    first | refine qy (k_ldr T.ts_27) ?_ | refine qy (k_lda T.ts_27) ?_
    refine qy a_move ?_
    refine qy a_move ?_
    refine qy (a_ix (hT := T.es_22) (h0 := by first | omega | decide) (hy := by first | exact map_at hp | exact map_at hq)) ?_
    first | refine qy (k_ldr T.ts_27) ?_ | refine qy (k_lda T.ts_27) ?_
    refine qy (a_call (hf := T.en_25) (hc := by exact refFieldSame_any p q hok)) ?_
    refine qy a_not ?_
    show _
    refine vif (fun hc3 => ?_) (fun hc3 => ?_)
    · -- yes
     refine vc_then ?_
     refine vc_region ?_
     refine vy a_assign ?_
     refine vl_nil ?_
     refine vc_ret ?_
     refine fin ?_
     simp only [fitsL, fits, C.asD, and_true]
     all_goals (refine scb ?_; first | exact (decide_eq_false (fun e => by simp_all)).symm | exact (decide_eq_false (ne_at hp hq (fun e => by simp_all))).symm | exact (decide_eq_true (take_eq_end hlen (past_end (by assumption)) hi)).symm)
    · -- no
     refine vc_skip ?_
     refine vc_region ?_
     refine vy a_move ?_
     refine vy (a_bin (hr := by first | exact pr_add (by first | exact wrap64 _ (by (first | omega | (simp only [List.length_map, List.length_append, List.length_nil, List.length_cons]; omega))) | rfl) | exact pr_cat (by (first | omega | (simp only [List.length_map, List.length_append, List.length_nil, List.length_cons]; omega))))) ?_
     refine vy a_assign ?_
     refine vl_nil ?_
     refine ⟨_, ?_, (k + 1), ⟨lt_len hp, take_eq_next hp hq hi (by simp_all)⟩, rfl, ?_⟩
     · --
      have := lt_len hp; omega
     · --
      repeat (first | exact sub_keep_nil | refine su ?_ | refine sk ?_)
   · -- no
    refine vc_exit ?_
    refine vc_then ?_
    refine vc_region ?_
    refine vy a_assign ?_
    refine vl_nil ?_
    refine vc_ret ?_
    refine fin ?_
    simp only [fitsL, fits, C.asD, and_true]
    all_goals (refine scb ?_; first | exact (decide_eq_false (fun e => by simp_all)).symm | exact (decide_eq_false (ne_at hp hq (fun e => by simp_all))).symm | exact (decide_eq_true (take_eq_end hlen (past_end (by assumption)) hi)).symm)
end Go.Vm
