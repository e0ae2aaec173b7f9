/- The walks of schemas: one field more. Printed by lens_schema.py. -/
import Derived.Test.YthkgbmekiclgmaaLnSchema2
namespace Go.Vm
open Go.RowKit Go.Proofs
set_option linter.unusedVariables false
set_option linter.unusedSimpArgs false
set_option maxRecDepth 10000

theorem ins_next {l : List FieldD} {f p : FieldD} {i k : Nat} (h : i ≤ k) (hp : l[k]? = some p) : (l.take i ++ f :: (l.drop i).take (k - i)) ++ [p] = l.take i ++ f :: (l.drop i).take (k + 1 - i) := by
  have : (l.drop i)[k - i]? = some p := by rw [List.getElem?_drop, show i + (k - i) = k by omega]; exact hp
  rw [show k + 1 - i = (k - i) + 1 by omega, take_next this]; simp
theorem ins_end {l : List FieldD} {f : FieldD} {i k : Nat} (hk : l.length ≤ k) : l.take i ++ f :: (l.drop i).take (k - i) = l.take i ++ f :: l.drop i := by
  rw [List.take_of_length_le (show (l.drop i).length ≤ k - i by rw [List.length_drop]; omega)]
theorem ins_len {l : List FieldD} {f : FieldD} {i m n : Nat} (h : l.length ≤ n) : (l.take i ++ f :: (l.drop i).take m).length ≤ n + 1 := by
  rw [List.length_append, List.length_cons, List.length_take, List.length_take, List.length_drop]; omega
theorem with_5 {l : List FieldD} {f : FieldD} (h : (rightS l && rightF f) = false) : withS l f = ([], 5) := if_pos h
theorem with_7 {l : List FieldD} {f : FieldD} (h : rightS l = true ∧ rightF f = true) (h1 : 0 ≤ indexS l f.at_) : withS l f = ([], 7) := by unfold withS; rw [h.1, h.2, if_neg (by simp), if_pos h1]
theorem with_14 {l : List FieldD} {f : FieldD} (h : rightS l = true ∧ rightF f = true) (h1 : ¬ 0 ≤ indexS l f.at_) (h2 : 16 ≤ l.length) : withS l f = ([], 14) := by unfold withS; rw [h.1, h.2, if_neg (by simp), if_neg h1, if_pos h2]
theorem with_0 {l : List FieldD} {f : FieldD} (h : rightS l = true ∧ rightF f = true) (h1 : ¬ 0 ≤ indexS l f.at_) (h2 : l.length < 16) : withS l f = (insF l f, 0) := by unfold withS; rw [h.1, h.2, if_neg (by simp), if_neg h1, if_neg (by omega)]

set_option maxHeartbeats 1000000 in
theorem schemaWith_any (l : List FieldD) (f : FieldD) (ho : okL l) (hf : f.cases.length ≤ 1000000) : Contract Try.prog 69 [.row (l.map fD), fD f] [.d (.row ((withS l f).1.map fD)), .d (.sc (.int .i64 (withS l f).2))] := by
 refine fn_of (N := 72) [.tmp 4, .tmp 5] Try.func69 ?_
 simp only [envUp, Nat.zero_add, Nat.reduceAdd]
 have hl0 := ho.1
 refine vc_then ?_
 refine vc_region ?_
 refine vs b_box ?_
 refine vy a_assign ?_
 refine vy a_assign ?_
 refine vl_nil ?_
 refine vc_goto_scope0 (fun E0 lb_ n_ env_ => (lb_ = 0 ∧ ∃ s : Nat × Nat × List FieldD, (s.1 ≤ l.length ∧ s.2.2 = l.take s.1 ∧ (∀ (j : Nat) (q : FieldD), j < s.1 → l[j]? = some q → lessB q.at_ f.at_ = true) ∧ (rightS l = true ∧ rightF f = true) ∧ ¬ 0 ≤ indexS l f.at_ ∧ l.length < 16) ∧ n_ = l.length - s.1 + 1 ∧ Sub (upd (upd (keep [0, 3] E0) (some 7) (.c (.d (.sc (.int .i64 ((s.1 : Nat) : Int)))))) (some 6) (.c (.own s.2.1 27 (s.2.2.map fD)))) env_) ∨ (lb_ = 1 ∧ ∃ s : Nat × Nat × List FieldD, (s.1 ≤ l.length ∧ (∃ i, i ≤ s.1 ∧ s.2.2 = l.take i ++ f :: (l.drop i).take (s.1 - i) ∧ insF l f = l.take i ++ f :: l.drop i) ∧ (rightS l = true ∧ rightF f = true) ∧ ¬ 0 ≤ indexS l f.at_ ∧ l.length < 16) ∧ n_ = l.length - s.1 ∧ Sub (upd (upd (keep [0] E0) (some 7) (.c (.d (.sc (.int .i64 ((s.1 : Nat) : Int)))))) (some 6) (.c (.own s.2.1 27 (s.2.2.map fD)))) env_)) ?_ ?_ ?_
 · --
  rintro lb_ n_ env_ (⟨rfl, _⟩ | ⟨rfl, _⟩) <;> rfl
 · --
  rintro lb_ n_ env_ (⟨rfl, s, ⟨hk, hA, hlt, hg⟩, rfl, hsub⟩ | ⟨rfl, s, ⟨hk, ⟨i, hik, hA, hins⟩, hg⟩, rfl, hsub⟩) ih
  · --
   refine vc_sub hsub ?_
   clear hsub env_
   have hg3 := hg.2.2
   have hAl : s.2.2.length ≤ 16 := by rw [hA]; exact length_take_le (by omega)
   refine vc_then ?_
   refine vc_then ?_
   refine vc_drawn0 T.mixed ?_
   refine qy a_move ?_
   refine qy a_move ?_
   refine qy (a_len (hT := T.es_22)) ?_
   refine qy (a_bin (hr := by first | exact pr_add1 (by omega) | exact pr_lss | exact pr_lts)) ?_
   refine qy a_move ?_
   refine qb 32 (fun hg1 => ?_) (fun hg1 => ?_)
   · -- guard yes
    obtain ⟨p, hp⟩ := elem_at hg1
    have hkl := lt_len hp
    have hok := ho.at hp
    refine qy a_move ?_
    refine qy a_move ?_
    refine qy (a_ix (hT := T.es_22) (h0 := by first | omega | decide) (hy := by exact map_at hp)) ?_
    first | refine qy (a_fr (hf := T.fo_27_0)) ?_ | refine qy (a_fa (hf := T.fo_27_0)) ?_
    first | refine qy (k_ldr T.ts_24) ?_ | refine qy (k_lda T.ts_24) ?_
    first | refine qy (a_fr (hf := T.fo_27_0)) ?_ | refine qy (a_fa (hf := T.fo_27_0)) ?_
    first | refine qy (k_ldr T.ts_24) ?_ | refine qy (k_lda T.ts_24) ?_
    refine qy (a_call (hf := T.en_76) (hc := by exact less_any _ _)) ?_
    refine qy a_pick ?_
    show _
    refine vif (fun hc2 => ?_) (fun hc2 => ?_)
    · -- yes
     refine vc_then ?_
     refine vc_region ?_
     refine vy a_move ?_
     refine vy a_move ?_
     refine vy a_move ?_
     refine vy (a_ix (hT := T.es_22) (h0 := by first | omega | decide) (hy := by exact map_at hp)) ?_
     first | refine vy (k_ldr T.ts_27) ?_ | refine vy (k_lda T.ts_27) ?_
     refine vy (a_call (hf := T.en_66) (hc := by exact fieldOwn_any _ (by assumption))) ?_
     refine vy (a_lit (xs := [_]) (hT := T.ef_22) (hz := T.zs_27)) ?_
     first | refine vs (b_app (hT := T.ef_22) (hw := by first | exact strs_wide | exact fD_wide | (simp [D.cells])) (h63 := by unfold maxLen; (first | omega | (simp only [List.length_map, List.length_append, List.length_nil, List.length_cons]; omega))) (hby := by first | omega | (simp only [List.length_map, List.length_append, List.length_nil, List.length_cons]; omega)) (hzs := by first | exact snoc_map | exact one_map | rfl)) ?_ | refine vy (a_appn (hT := T.ef_22) (hw := by first | exact strs_wide | exact fD_wide | (simp [D.cells])) (h63 := by unfold maxLen; (first | omega | (simp only [List.length_map, List.length_append, List.length_nil, List.length_cons]; omega))) (hby := by first | omega | (simp only [List.length_map, List.length_append, List.length_nil, List.length_cons]; omega))) ?_
     refine vy a_assign ?_
     refine vl_nil ?_
     refine vc_then ?_
     refine vc_region ?_
     refine vy a_move ?_
     refine vy (a_bin (hr := by first | exact pr_add1 (by omega) | exact pr_add (by first | exact wrap64 _ (by (first | omega | (simp only [List.length_map, List.length_append, List.length_nil, List.length_cons]; omega))) | rfl) | exact pr_cat (by (first | omega | (simp only [List.length_map, List.length_append, List.length_nil, List.length_cons]; omega))))) ?_
     refine vy a_assign ?_
     refine vl_nil ?_
     refine vc_goto ?_
     refine ⟨_, ?_, .inl (⟨rfl, (s.1 + 1, 49, s.2.2 ++ [p]), ⟨lt_len hp, by rw [hA]; exact (take_next hp).symm, (fun j q hj hq => (Nat.lt_succ_iff_lt_or_eq.1 hj).elim (fun h => hlt j q h hq) (fun e => by subst e; rw [hp] at hq; injection hq with hq; subst hq; assumption)), hg⟩, rfl, ?_⟩)⟩
     · --
      have := lt_len hp; (try dsimp only); omega
     · --
      repeat (first | exact sub_keep_nil | refine su ?_ | refine sk ?_)
    · -- no
     refine vc_skip ?_
     refine vc_then ?_
     refine vc_region ?_
     refine vy a_move ?_
     first | refine vy (k_ldr T.ts_27) ?_ | refine vy (k_lda T.ts_27) ?_
     refine vy (a_call (hf := T.en_66) (hc := by exact fieldOwn_any _ (by assumption))) ?_
     refine vy (a_lit (xs := [_]) (hT := T.ef_22) (hz := T.zs_27)) ?_
     first | refine vs (b_app (hT := T.ef_22) (hw := by first | exact strs_wide | exact fD_wide | (simp [D.cells])) (h63 := by unfold maxLen; (first | omega | (simp only [List.length_map, List.length_append, List.length_nil, List.length_cons]; omega))) (hby := by first | omega | (simp only [List.length_map, List.length_append, List.length_nil, List.length_cons]; omega)) (hzs := by first | exact snoc_map | exact one_map | rfl)) ?_ | refine vy (a_appn (hT := T.ef_22) (hw := by first | exact strs_wide | exact fD_wide | (simp [D.cells])) (h63 := by unfold maxLen; (first | omega | (simp only [List.length_map, List.length_append, List.length_nil, List.length_cons]; omega))) (hby := by first | omega | (simp only [List.length_map, List.length_append, List.length_nil, List.length_cons]; omega))) ?_
     refine vy a_assign ?_
     refine vl_nil ?_
     refine vc_fall_label ?_
     refine ih 1 _ _ ?_ (.inr (⟨rfl, (s.1, 56, s.2.2 ++ [f]), ⟨hk, ⟨s.1, Nat.le_refl _, by rw [hA]; simp, (by first | exact ins_at hlt (.inl (past_end (by assumption))) | exact ins_at hlt (.inr ⟨p, hp, by simp_all⟩))⟩, hg⟩, rfl, ?_⟩))
     · --
      (try dsimp only); omega
     · --
      repeat (first | exact sub_keep_nil | refine su ?_ | refine sk ?_)
   · -- guard no
    refine qn ?_
    refine qn ?_
    refine qn ?_
    refine qn ?_
    refine qn ?_
    refine qn ?_
    refine qn ?_
    refine qn ?_
    refine qy a_pick ?_
    show _
    refine vif (fun hc3 => ?_) (fun hc3 => ?_)
    · -- yes
     first | (exfalso; have hdead := hc3; simp at hdead <;> omega) | (exfalso; simp_all; done)
    · -- no
     refine vc_skip ?_
     refine vc_then ?_
     refine vc_region ?_
     refine vy a_move ?_
     first | refine vy (k_ldr T.ts_27) ?_ | refine vy (k_lda T.ts_27) ?_
     refine vy (a_call (hf := T.en_66) (hc := by exact fieldOwn_any _ (by assumption))) ?_
     refine vy (a_lit (xs := [_]) (hT := T.ef_22) (hz := T.zs_27)) ?_
     first | refine vs (b_app (hT := T.ef_22) (hw := by first | exact strs_wide | exact fD_wide | (simp [D.cells])) (h63 := by unfold maxLen; (first | omega | (simp only [List.length_map, List.length_append, List.length_nil, List.length_cons]; omega))) (hby := by first | omega | (simp only [List.length_map, List.length_append, List.length_nil, List.length_cons]; omega)) (hzs := by first | exact snoc_map | exact one_map | rfl)) ?_ | refine vy (a_appn (hT := T.ef_22) (hw := by first | exact strs_wide | exact fD_wide | (simp [D.cells])) (h63 := by unfold maxLen; (first | omega | (simp only [List.length_map, List.length_append, List.length_nil, List.length_cons]; omega))) (hby := by first | omega | (simp only [List.length_map, List.length_append, List.length_nil, List.length_cons]; omega))) ?_
     refine vy a_assign ?_
     refine vl_nil ?_
     refine vc_fall_label ?_
     refine ih 1 _ _ ?_ (.inr (⟨rfl, (s.1, 56, s.2.2 ++ [f]), ⟨hk, ⟨s.1, Nat.le_refl _, by rw [hA]; simp, (by first | exact ins_at hlt (.inl (past_end (by assumption))) | exact ins_at hlt (.inr ⟨p, hp, by simp_all⟩))⟩, hg⟩, rfl, ?_⟩))
     · --
      (try dsimp only); omega
     · --
      repeat (first | exact sub_keep_nil | refine su ?_ | refine sk ?_)
  · --
   refine vc_sub hsub ?_
   clear hsub env_
   have hg3 := hg.2.2
   have hAl : s.2.2.length ≤ 17 := by rw [hA]; exact ins_len (n := 16) (by omega)
   refine vc_then ?_
   refine vc_then ?_
   refine vc_region ?_
   refine vy a_move ?_
   refine vy a_move ?_
   refine vy (a_len (hT := T.es_22)) ?_
   refine vy (a_bin (hr := by first | exact pr_add1 (by omega) | exact pr_lss | exact pr_lts)) ?_
   refine vl_nil ?_
   refine vif (fun hc4 => ?_) (fun hc4 => ?_)
   · -- yes
    obtain ⟨p, hp⟩ := elem_at hc4
    have hkl := lt_len hp
    have hok := ho.at hp
    refine vc_then ?_
    refine vc_region ?_
    refine vy a_move ?_
    refine vy a_move ?_
    refine vy a_move ?_
    refine vy (a_ix (hT := T.es_22) (h0 := by first | omega | decide) (hy := by exact map_at hp)) ?_
    first | refine vy (k_ldr T.ts_27) ?_ | refine vy (k_lda T.ts_27) ?_
    refine vy (a_call (hf := T.en_66) (hc := by exact fieldOwn_any _ (by assumption))) ?_
    refine vy (a_lit (xs := [_]) (hT := T.ef_22) (hz := T.zs_27)) ?_
    first | refine vs (b_app (hT := T.ef_22) (hw := by first | exact strs_wide | exact fD_wide | (simp [D.cells])) (h63 := by unfold maxLen; (first | omega | (simp only [List.length_map, List.length_append, List.length_nil, List.length_cons]; omega))) (hby := by first | omega | (simp only [List.length_map, List.length_append, List.length_nil, List.length_cons]; omega)) (hzs := by first | exact snoc_map | exact one_map | rfl)) ?_ | refine vy (a_appn (hT := T.ef_22) (hw := by first | exact strs_wide | exact fD_wide | (simp [D.cells])) (h63 := by unfold maxLen; (first | omega | (simp only [List.length_map, List.length_append, List.length_nil, List.length_cons]; omega))) (hby := by first | omega | (simp only [List.length_map, List.length_append, List.length_nil, List.length_cons]; omega))) ?_
    refine vy a_assign ?_
    refine vl_nil ?_
    refine vc_then ?_
    refine vc_region ?_
    refine vy a_move ?_
    refine vy (a_bin (hr := by first | exact pr_add1 (by omega) | exact pr_add (by first | exact wrap64 _ (by (first | omega | (simp only [List.length_map, List.length_append, List.length_nil, List.length_cons]; omega))) | rfl) | exact pr_cat (by (first | omega | (simp only [List.length_map, List.length_append, List.length_nil, List.length_cons]; omega))))) ?_
    refine vy a_assign ?_
    refine vl_nil ?_
    refine vc_goto ?_
    refine ⟨_, ?_, .inr (⟨rfl, (s.1 + 1, 68, s.2.2 ++ [p]), ⟨lt_len hp, ⟨i, by (try dsimp only); omega, by rw [hA]; exact ins_next hik hp, hins⟩, hg⟩, rfl, ?_⟩)⟩
    · --
     have := lt_len hp; (try dsimp only); omega
    · --
     repeat (first | exact sub_keep_nil | refine su ?_ | refine sk ?_)
   · -- no
    refine vc_skip ?_
    refine vc_then ?_
    refine vc_region ?_
    refine vy a_move ?_
    refine vy a_assign ?_
    refine vy a_assign ?_
    refine vl_nil ?_
    refine vc_ret ?_
    refine fin ?_
    simp only [fitsL, fits, C.asD, and_true]
    all_goals (first | (rw [with_5 h5]; exact ⟨rfl, rfl⟩) | (rw [with_7 hg1 h7]; exact ⟨rfl, rfl⟩) | (rw [with_14 hg1 hg2 h14]; exact ⟨rfl, rfl⟩) | (rw [with_0 hg.1 hg.2.1 hg.2.2]; exact ⟨row_inj (by rw [hA, ins_end (past_end (by assumption)), hins]), rfl⟩))
 · --
  intro ih
  refine vc_then ?_
  refine vc_then ?_
  refine vc_region ?_
  refine vy a_move ?_
  refine vy (a_call (hf := T.en_18) (hc := by exact schemaRight_any _ (by assumption))) ?_
  refine vy a_not ?_
  refine vy a_move ?_
  refine vb 11 (fun hg5 => ?_) (fun hg5 => ?_)
  · -- guard yes
   refine vn ?_
   refine vn ?_
   refine vn ?_
   refine vy a_pick ?_
   refine vl_nil ?_
   refine vif (fun hc6 => ?_) (fun hc6 => ?_)
   · -- yes
    have h5 : (rightS l && rightF f) = false := by simp_all
    refine vc_then ?_
    refine vc_region ?_
    refine vy a_assign ?_
    refine vy a_assign ?_
    refine vl_nil ?_
    refine vc_ret ?_
    refine fin ?_
    simp only [fitsL, fits, C.asD, and_true]
    all_goals (first | (rw [with_5 h5]; exact ⟨rfl, rfl⟩) | (rw [with_7 hg1 h7]; exact ⟨rfl, rfl⟩) | (rw [with_14 hg1 hg2 h14]; exact ⟨rfl, rfl⟩) | (rw [with_0 hg.1 hg.2.1 hg.2.2]; exact ⟨row_inj (by rw [hA, ins_end (past_end (by assumption)), hins]), rfl⟩))
   · -- no
    first | (exfalso; have hdead := hc6; simp at hdead <;> omega) | (exfalso; simp_all; done)
  · -- guard no
   first | refine vy (k_ldr T.ts_27) ?_ | refine vy (k_lda T.ts_27) ?_
   refine vy (a_call (hf := T.en_75) (hc := by exact fieldRight_any _ (by assumption))) ?_
   refine vy a_not ?_
   refine vy a_pick ?_
   refine vl_nil ?_
   refine vif (fun hc7 => ?_) (fun hc7 => ?_)
   · -- yes
    have h5 : (rightS l && rightF f) = false := by simp_all
    refine vc_then ?_
    refine vc_region ?_
    refine vy a_assign ?_
    refine vy a_assign ?_
    refine vl_nil ?_
    refine vc_ret ?_
    refine fin ?_
    simp only [fitsL, fits, C.asD, and_true]
    all_goals (first | (rw [with_5 h5]; exact ⟨rfl, rfl⟩) | (rw [with_7 hg1 h7]; exact ⟨rfl, rfl⟩) | (rw [with_14 hg1 hg2 h14]; exact ⟨rfl, rfl⟩) | (rw [with_0 hg.1 hg.2.1 hg.2.2]; exact ⟨row_inj (by rw [hA, ins_end (past_end (by assumption)), hins]), rfl⟩))
   · -- no
    have hg1 : rightS l = true ∧ rightF f = true := by simp_all
    refine vc_skip ?_
    refine vc_then ?_
    refine vc_then ?_
    refine vc_region ?_
    refine vy a_move ?_
    first | refine vy (a_fr (hf := T.fo_27_0)) ?_ | refine vy (a_fa (hf := T.fo_27_0)) ?_
    first | refine vy (k_ldr T.ts_24) ?_ | refine vy (k_lda T.ts_24) ?_
    refine vy (a_call (hf := T.en_80) (hc := by exact schemaIndex_any _ _ ho.1)) ?_
    refine vy (a_bin (hr := by first | exact pr_add1 (by omega) | exact pr_geq)) ?_
    refine vl_nil ?_
    refine vif (fun hc8 => ?_) (fun hc8 => ?_)
    · -- yes
     have h7 := of_decide_eq_true hc8
     refine vc_then ?_
     refine vc_region ?_
     refine vy a_assign ?_
     refine vy a_assign ?_
     refine vl_nil ?_
     refine vc_ret ?_
     refine fin ?_
     simp only [fitsL, fits, C.asD, and_true]
     all_goals (first | (rw [with_5 h5]; exact ⟨rfl, rfl⟩) | (rw [with_7 hg1 h7]; exact ⟨rfl, rfl⟩) | (rw [with_14 hg1 hg2 h14]; exact ⟨rfl, rfl⟩) | (rw [with_0 hg.1 hg.2.1 hg.2.2]; exact ⟨row_inj (by rw [hA, ins_end (past_end (by assumption)), hins]), rfl⟩))
    · -- no
     have hg2 : ¬ 0 ≤ indexS l f.at_ := of_decide_eq_false hc8
     refine vc_skip ?_
     refine vc_then ?_
     refine vc_then ?_
     refine vc_region ?_
     refine vy a_move ?_
     refine vy (a_len (hT := T.es_22)) ?_
     refine vy (a_bin (hr := by first | exact pr_add1 (by omega) | exact pr_geq)) ?_
     refine vl_nil ?_
     refine vif (fun hc9 => ?_) (fun hc9 => ?_)
     · -- yes
      have h14 : 16 ≤ l.length := by (simp only [decide_eq_true_eq, decide_eq_false_iff_not, Bool.not_eq_true', Bool.not_eq_false', Bool.and_eq_true, Bool.or_eq_true, Bool.or_eq_false_iff, Bool.and_eq_false_iff, beq_iff_eq, beq_eq_false_iff_ne, ne_eq, Bool.not_true, Bool.not_false, Bool.false_eq_true, Bool.true_eq_false] at * <;> omega)
      refine vc_then ?_
      refine vc_region ?_
      refine vy a_assign ?_
      refine vy a_assign ?_
      refine vl_nil ?_
      refine vc_ret ?_
      refine fin ?_
      simp only [fitsL, fits, C.asD, and_true]
      all_goals (first | (rw [with_5 h5]; exact ⟨rfl, rfl⟩) | (rw [with_7 hg1 h7]; exact ⟨rfl, rfl⟩) | (rw [with_14 hg1 hg2 h14]; exact ⟨rfl, rfl⟩) | (rw [with_0 hg.1 hg.2.1 hg.2.2]; exact ⟨row_inj (by rw [hA, ins_end (past_end (by assumption)), hins]), rfl⟩))
     · -- no
      have hg3 : l.length < 16 := by (simp only [decide_eq_true_eq, decide_eq_false_iff_not, Bool.not_eq_true', Bool.not_eq_false', Bool.and_eq_true, Bool.or_eq_true, Bool.or_eq_false_iff, Bool.and_eq_false_iff, beq_iff_eq, beq_eq_false_iff_ne, ne_eq, Bool.not_true, Bool.not_false, Bool.false_eq_true, Bool.true_eq_false] at * <;> omega)
      have hg : (rightS l = true ∧ rightF f = true) ∧ ¬ 0 ≤ indexS l f.at_ ∧ l.length < 16 := ⟨hg1, hg2, hg3⟩
      refine vc_skip ?_
      refine vc_then ?_
      refine vc_region ?_
      refine vy a_move ?_
      refine vy (a_len (hT := T.es_22)) ?_
      refine vy (a_bin (hr := by first | exact pr_add1 (by omega) | exact pr_add (by first | exact wrap64 _ (by (first | omega | (simp only [List.length_map, List.length_append, List.length_nil, List.length_cons]; omega))) | rfl) | exact pr_cat (by (first | omega | (simp only [List.length_map, List.length_append, List.length_nil, List.length_cons]; omega))))) ?_
      refine vy (a_make (hT := T.ef_22) (hb := by first | omega | (simp only [List.length_map, List.length_append, List.length_nil, List.length_cons]; omega)) (hm := by unfold maxLen; (first | omega | (simp only [List.length_map, List.length_append, List.length_nil, List.length_cons]; omega)))) ?_
      refine vy a_assign ?_
      refine vl_nil ?_
      refine vc_then ?_
      refine vc_region ?_
      refine vy a_assign ?_
      refine vl_nil ?_
      refine vc_fall_label ?_
      refine ih 0 _ _ (.inl (⟨rfl, (0, 27, []), ⟨Nat.zero_le _, rfl, fun j q hj => absurd hj (Nat.not_lt_zero _), hg⟩, rfl, ?_⟩))
      · --
       repeat (first | exact sub_keep_nil | refine su ?_ | refine sk ?_)

set_option maxHeartbeats 1000000 in
theorem refSchemaWith_any (l : List FieldD) (f : FieldD) (ho : okL l) (hf : f.cases.length ≤ 1000000) : Contract Try.prog 129 [.row (l.map fD), fD f] [.d (.row ((withS l f).1.map fD)), .d (.sc (.int .i64 (withS l f).2))] := by
 refine fn_of (N := 66) [.tmp 4, .tmp 5] Try.func129 ?_
 simp only [envUp, Nat.zero_add, Nat.reduceAdd]
 have hl0 := ho.1
 refine vc_then ?_
 refine vc_region ?_
 refine vs b_box ?_
 refine vy a_assign ?_
 refine vy a_assign ?_
 refine vl_nil ?_
 refine vc_then ?_
 refine vc_then ?_
 refine vc_region ?_
 refine vy a_move ?_
 refine vy (a_call (hf := T.en_19) (hc := by exact refSchemaRight_any _ (by assumption))) ?_
 refine vy a_not ?_
 refine vy a_move ?_
 refine vb 11 (fun hg1 => ?_) (fun hg1 => ?_)
 · -- guard yes
  refine vn ?_
  refine vn ?_
  refine vn ?_
  refine vy a_pick ?_
  refine vl_nil ?_
  refine vif (fun hc2 => ?_) (fun hc2 => ?_)
  · -- yes
   have h5 : (rightS l && rightF f) = false := by simp_all
   refine vc_then ?_
   refine vc_region ?_
   refine vy a_assign ?_
   refine vy a_assign ?_
   refine vl_nil ?_
   refine vc_ret ?_
   refine fin ?_
   simp only [fitsL, fits, C.asD, and_true]
   all_goals (first | (rw [with_5 h5]; exact ⟨rfl, rfl⟩) | (rw [with_7 hg1 h7]; exact ⟨rfl, rfl⟩) | (rw [with_14 hg1 hg2 h14]; exact ⟨rfl, rfl⟩) | (rw [with_0 hg.1 hg.2.1 hg.2.2]; exact ⟨row_inj (by rw [hA, ins_end (past_end (by assumption)), hins]), rfl⟩))
  · -- no
   first | (exfalso; have hdead := hc2; simp at hdead <;> omega) | (exfalso; simp_all; done)
 · -- guard no
  first | refine vy (k_ldr T.ts_27) ?_ | refine vy (k_lda T.ts_27) ?_
  refine vy (a_call (hf := T.en_77) (hc := by exact refFieldRight_any _ (by assumption))) ?_
  refine vy a_not ?_
  refine vy a_pick ?_
  refine vl_nil ?_
  refine vif (fun hc3 => ?_) (fun hc3 => ?_)
  · -- yes
   have h5 : (rightS l && rightF f) = false := by simp_all
   refine vc_then ?_
   refine vc_region ?_
   refine vy a_assign ?_
   refine vy a_assign ?_
   refine vl_nil ?_
   refine vc_ret ?_
   refine fin ?_
   simp only [fitsL, fits, C.asD, and_true]
   all_goals (first | (rw [with_5 h5]; exact ⟨rfl, rfl⟩) | (rw [with_7 hg1 h7]; exact ⟨rfl, rfl⟩) | (rw [with_14 hg1 hg2 h14]; exact ⟨rfl, rfl⟩) | (rw [with_0 hg.1 hg.2.1 hg.2.2]; exact ⟨row_inj (by rw [hA, ins_end (past_end (by assumption)), hins]), rfl⟩))
  · -- no
   have hg1 : rightS l = true ∧ rightF f = true := by simp_all
   refine vc_skip ?_
   refine vc_then ?_
   refine vc_then ?_
   refine vc_region ?_
   refine vy a_move ?_
   first | refine vy (a_fr (hf := T.fo_27_0)) ?_ | refine vy (a_fa (hf := T.fo_27_0)) ?_
   first | refine vy (k_ldr T.ts_24) ?_ | refine vy (k_lda T.ts_24) ?_
   refine vy (a_call (hf := T.en_22) (hc := by exact refSchemaAt_any _ _ ho.1)) ?_
   refine vy (a_bin (hr := by first | exact pr_add1 (by omega) | exact pr_geq)) ?_
   refine vl_nil ?_
   refine vif (fun hc4 => ?_) (fun hc4 => ?_)
   · -- yes
    have h7 := of_decide_eq_true hc4
    refine vc_then ?_
    refine vc_region ?_
    refine vy a_assign ?_
    refine vy a_assign ?_
    refine vl_nil ?_
    refine vc_ret ?_
    refine fin ?_
    simp only [fitsL, fits, C.asD, and_true]
    all_goals (first | (rw [with_5 h5]; exact ⟨rfl, rfl⟩) | (rw [with_7 hg1 h7]; exact ⟨rfl, rfl⟩) | (rw [with_14 hg1 hg2 h14]; exact ⟨rfl, rfl⟩) | (rw [with_0 hg.1 hg.2.1 hg.2.2]; exact ⟨row_inj (by rw [hA, ins_end (past_end (by assumption)), hins]), rfl⟩))
   · -- no
    have hg2 : ¬ 0 ≤ indexS l f.at_ := of_decide_eq_false hc4
    refine vc_skip ?_
    refine vc_then ?_
    refine vc_then ?_
    refine vc_region ?_
    refine vy a_move ?_
    refine vy (a_len (hT := T.es_22)) ?_
    refine vy (a_bin (hr := by first | exact pr_add1 (by omega) | exact pr_gtr)) ?_
    refine vl_nil ?_
    refine vif (fun hc5 => ?_) (fun hc5 => ?_)
    · -- yes
     have h14 : 16 ≤ l.length := by (simp only [decide_eq_true_eq, decide_eq_false_iff_not, Bool.not_eq_true', Bool.not_eq_false', Bool.and_eq_true, Bool.or_eq_true, Bool.or_eq_false_iff, Bool.and_eq_false_iff, beq_iff_eq, beq_eq_false_iff_ne, ne_eq, Bool.not_true, Bool.not_false, Bool.false_eq_true, Bool.true_eq_false] at * <;> omega)
     refine vc_then ?_
     refine vc_region ?_
     refine vy a_assign ?_
     refine vy a_assign ?_
     refine vl_nil ?_
     refine vc_ret ?_
     refine fin ?_
     simp only [fitsL, fits, C.asD, and_true]
     all_goals (first | (rw [with_5 h5]; exact ⟨rfl, rfl⟩) | (rw [with_7 hg1 h7]; exact ⟨rfl, rfl⟩) | (rw [with_14 hg1 hg2 h14]; exact ⟨rfl, rfl⟩) | (rw [with_0 hg.1 hg.2.1 hg.2.2]; exact ⟨row_inj (by rw [hA, ins_end (past_end (by assumption)), hins]), rfl⟩))
    · -- no
     have hg3 : l.length < 16 := by (simp only [decide_eq_true_eq, decide_eq_false_iff_not, Bool.not_eq_true', Bool.not_eq_false', Bool.and_eq_true, Bool.or_eq_true, Bool.or_eq_false_iff, Bool.and_eq_false_iff, beq_iff_eq, beq_eq_false_iff_ne, ne_eq, Bool.not_true, Bool.not_false, Bool.false_eq_true, Bool.true_eq_false] at * <;> omega)
     have hg : (rightS l = true ∧ rightF f = true) ∧ ¬ 0 ≤ indexS l f.at_ ∧ l.length < 16 := ⟨hg1, hg2, hg3⟩
     refine vc_skip ?_
     refine vc_then ?_
     refine vc_region ?_
     refine vy (a_lit (xs := []) (hT := T.ef_22) (hz := T.zs_27) (hw := by intro x hx; cases hx)) ?_
     refine vy a_assign ?_
     refine vl_nil ?_
     refine vc_then ?_
     refine vc_region ?_
     refine vy a_assign ?_
     refine vl_nil ?_
     refine vc_then ?_
     refine vc_block ?_
     refine vk [0, 3] (fun (s : Nat × Nat × List FieldD) e => upd (upd (e) (some 7) (.c (.d (.sc (.int .i64 ((s.1 : Nat) : Int)))))) (some 6) (.c (.own s.2.1 27 (s.2.2.map fD)))) (fun s => s.1 ≤ l.length ∧ s.2.2 = l.take s.1 ∧ (∀ (j : Nat) (q : FieldD), j < s.1 → l[j]? = some q → lessB q.at_ f.at_ = true) ∧ (rightS l = true ∧ rightF f = true) ∧ ¬ 0 ≤ indexS l f.at_ ∧ l.length < 16) (fun s => l.length - s.1) (0, 24, []) ⟨Nat.zero_le _, rfl, fun j q hj => absurd hj (Nat.not_lt_zero _), hg⟩ ?_ ?_
     · --
      repeat (first | exact sub_keep_nil | refine su ?_ | refine sk ?_)
     · --
      rintro s ⟨hk, hA, hlt, hg⟩
      have hg3 := hg.2.2
      have hAl : s.2.2.length ≤ 16 := by rw [hA]; exact length_take_le (by omega)
      refine vc_then ?_
      refine vc_then ?_
      refine vc_drawn0 T.mixed ?_
      refine qy a_move ?_
      refine qy a_move ?_
      refine qy (a_len (hT := T.es_22)) ?_
      refine qy (a_bin (hr := by first | exact pr_add1 (by omega) | exact pr_lss | exact pr_lts)) ?_
      refine qy a_move ?_
      refine qb 29 (fun hg6 => ?_) (fun hg6 => ?_)
      · -- guard yes
       obtain ⟨p, hp⟩ := elem_at hg6
       have hkl := lt_len hp
       have hok := ho.at hp
       refine qy a_move ?_
       refine qy a_move ?_
       refine qy (a_ix (hT := T.es_22) (h0 := by first | omega | decide) (hy := by exact map_at hp)) ?_
       first | refine qy (a_fr (hf := T.fo_27_0)) ?_ | refine qy (a_fa (hf := T.fo_27_0)) ?_
       first | refine qy (k_ldr T.ts_24) ?_ | refine qy (k_lda T.ts_24) ?_
       first | refine qy (a_fr (hf := T.fo_27_0)) ?_ | refine qy (a_fa (hf := T.fo_27_0)) ?_
       first | refine qy (k_ldr T.ts_24) ?_ | refine qy (k_lda T.ts_24) ?_
       refine qy (a_call (hf := T.en_78) (hc := by exact refLess_any _ _)) ?_
       refine qy a_pick ?_
       show _
       refine vif (fun hc7 => ?_) (fun hc7 => ?_)
       · -- yes
        refine vc_skip ?_
        refine vc_block ?_
        refine vc_then ?_
        refine vc_region ?_
        refine vy a_move ?_
        refine vy a_move ?_
        refine vy a_move ?_
        refine vy (a_ix (hT := T.es_22) (h0 := by first | omega | decide) (hy := by exact map_at hp)) ?_
        first | refine vy (k_ldr T.ts_27) ?_ | refine vy (k_lda T.ts_27) ?_
        refine vy (a_lit (xs := [_]) (hT := T.ef_22) (hz := T.zs_27)) ?_
        first | refine vs (b_app (hT := T.ef_22) (hw := by first | exact strs_wide | exact fD_wide | (simp [D.cells])) (h63 := by unfold maxLen; (first | omega | (simp only [List.length_map, List.length_append, List.length_nil, List.length_cons]; omega))) (hby := by first | omega | (simp only [List.length_map, List.length_append, List.length_nil, List.length_cons]; omega)) (hzs := by first | exact snoc_map | exact one_map | rfl)) ?_ | refine vy (a_appn (hT := T.ef_22) (hw := by first | exact strs_wide | exact fD_wide | (simp [D.cells])) (h63 := by unfold maxLen; (first | omega | (simp only [List.length_map, List.length_append, List.length_nil, List.length_cons]; omega))) (hby := by first | omega | (simp only [List.length_map, List.length_append, List.length_nil, List.length_cons]; omega))) ?_
        refine vy a_assign ?_
        refine vl_nil ?_
        refine vc_region ?_
        refine vy a_move ?_
        refine vy (a_bin (hr := by first | exact pr_add1 (by omega) | exact pr_add (by first | exact wrap64 _ (by (first | omega | (simp only [List.length_map, List.length_append, List.length_nil, List.length_cons]; omega))) | rfl) | exact pr_cat (by (first | omega | (simp only [List.length_map, List.length_append, List.length_nil, List.length_cons]; omega))))) ?_
        refine vy a_assign ?_
        refine vl_nil ?_
        refine ⟨_, ?_, (s.1 + 1, 45, s.2.2 ++ [p]), ⟨lt_len hp, by rw [hA]; exact (take_next hp).symm, (fun j q hj hq => (Nat.lt_succ_iff_lt_or_eq.1 hj).elim (fun h => hlt j q h hq) (fun e => by subst e; rw [hp] at hq; injection hq with hq; subst hq; assumption)), hg⟩, rfl, ?_⟩
        · --
         have := lt_len hp; (try dsimp only); omega
        · --
         repeat (first | exact sub_keep_nil | refine su ?_ | refine sk ?_)
       · -- no
        refine vc_exit ?_
        refine vc_then ?_
        refine vc_region ?_
        refine vy a_move ?_
        first | refine vy (k_ldr T.ts_27) ?_ | refine vy (k_lda T.ts_27) ?_
        refine vy (a_lit (xs := [_]) (hT := T.ef_22) (hz := T.zs_27)) ?_
        first | refine vs (b_app (hT := T.ef_22) (hw := by first | exact strs_wide | exact fD_wide | (simp [D.cells])) (h63 := by unfold maxLen; (first | omega | (simp only [List.length_map, List.length_append, List.length_nil, List.length_cons]; omega))) (hby := by first | omega | (simp only [List.length_map, List.length_append, List.length_nil, List.length_cons]; omega)) (hzs := by first | exact snoc_map | exact one_map | rfl)) ?_ | refine vy (a_appn (hT := T.ef_22) (hw := by first | exact strs_wide | exact fD_wide | (simp [D.cells])) (h63 := by unfold maxLen; (first | omega | (simp only [List.length_map, List.length_append, List.length_nil, List.length_cons]; omega))) (hby := by first | omega | (simp only [List.length_map, List.length_append, List.length_nil, List.length_cons]; omega))) ?_
        refine vy a_assign ?_
        refine vl_nil ?_
        refine vc_then ?_
        refine vc_block ?_
        refine vk [0] (fun (s : Nat × Nat × List FieldD) e => upd (upd (e) (some 7) (.c (.d (.sc (.int .i64 ((s.1 : Nat) : Int)))))) (some 6) (.c (.own s.2.1 27 (s.2.2.map fD)))) (fun s => s.1 ≤ l.length ∧ (∃ i, i ≤ s.1 ∧ s.2.2 = l.take i ++ f :: (l.drop i).take (s.1 - i) ∧ insF l f = l.take i ++ f :: l.drop i) ∧ (rightS l = true ∧ rightF f = true) ∧ ¬ 0 ≤ indexS l f.at_ ∧ l.length < 16) (fun s => l.length - s.1) (s.1, 51, s.2.2 ++ [f]) ⟨hk, ⟨s.1, Nat.le_refl _, by rw [hA]; simp, (by first | exact ins_at hlt (.inl (past_end (by assumption))) | exact ins_at hlt (.inr ⟨p, hp, by simp_all⟩))⟩, hg⟩ ?_ ?_
        · --
         repeat (first | exact sub_keep_nil | refine su ?_ | refine sk ?_)
        · --
         rintro s ⟨hk, ⟨i, hik, hA, hins⟩, hg⟩
         have hg3 := hg.2.2
         have hAl : s.2.2.length ≤ 17 := by rw [hA]; exact ins_len (n := 16) (by omega)
         refine vc_then ?_
         refine vc_then ?_
         refine vc_region ?_
         refine vy a_move ?_
         refine vy a_move ?_
         refine vy (a_len (hT := T.es_22)) ?_
         refine vy (a_bin (hr := by first | exact pr_add1 (by omega) | exact pr_lss | exact pr_lts)) ?_
         refine vl_nil ?_
         refine vif (fun hc8 => ?_) (fun hc8 => ?_)
         · -- yes
          obtain ⟨p, hp⟩ := elem_at hc8
          have hkl := lt_len hp
          have hok := ho.at hp
          refine vc_skip ?_
          refine vc_block ?_
          refine vc_then ?_
          refine vc_region ?_
          refine vy a_move ?_
          refine vy a_move ?_
          refine vy a_move ?_
          refine vy (a_ix (hT := T.es_22) (h0 := by first | omega | decide) (hy := by exact map_at hp)) ?_
          first | refine vy (k_ldr T.ts_27) ?_ | refine vy (k_lda T.ts_27) ?_
          refine vy (a_lit (xs := [_]) (hT := T.ef_22) (hz := T.zs_27)) ?_
          first | refine vs (b_app (hT := T.ef_22) (hw := by first | exact strs_wide | exact fD_wide | (simp [D.cells])) (h63 := by unfold maxLen; (first | omega | (simp only [List.length_map, List.length_append, List.length_nil, List.length_cons]; omega))) (hby := by first | omega | (simp only [List.length_map, List.length_append, List.length_nil, List.length_cons]; omega)) (hzs := by first | exact snoc_map | exact one_map | rfl)) ?_ | refine vy (a_appn (hT := T.ef_22) (hw := by first | exact strs_wide | exact fD_wide | (simp [D.cells])) (h63 := by unfold maxLen; (first | omega | (simp only [List.length_map, List.length_append, List.length_nil, List.length_cons]; omega))) (hby := by first | omega | (simp only [List.length_map, List.length_append, List.length_nil, List.length_cons]; omega))) ?_
          refine vy a_assign ?_
          refine vl_nil ?_
          refine vc_region ?_
          refine vy a_move ?_
          refine vy (a_bin (hr := by first | exact pr_add1 (by omega) | exact pr_add (by first | exact wrap64 _ (by (first | omega | (simp only [List.length_map, List.length_append, List.length_nil, List.length_cons]; omega))) | rfl) | exact pr_cat (by (first | omega | (simp only [List.length_map, List.length_append, List.length_nil, List.length_cons]; omega))))) ?_
          refine vy a_assign ?_
          refine vl_nil ?_
          refine ⟨_, ?_, (s.1 + 1, 62, s.2.2 ++ [p]), ⟨lt_len hp, ⟨i, by (try dsimp only); omega, by rw [hA]; exact ins_next hik hp, hins⟩, hg⟩, rfl, ?_⟩
          · --
           have := lt_len hp; (try dsimp only); omega
          · --
           repeat (first | exact sub_keep_nil | refine su ?_ | refine sk ?_)
         · -- no
          refine vc_exit ?_
          refine vc_then ?_
          refine vc_region ?_
          refine vy a_move ?_
          refine vy a_assign ?_
          refine vy a_assign ?_
          refine vl_nil ?_
          refine vc_ret ?_
          refine fin ?_
          simp only [fitsL, fits, C.asD, and_true]
          all_goals (first | (rw [with_5 h5]; exact ⟨rfl, rfl⟩) | (rw [with_7 hg1 h7]; exact ⟨rfl, rfl⟩) | (rw [with_14 hg1 hg2 h14]; exact ⟨rfl, rfl⟩) | (rw [with_0 hg.1 hg.2.1 hg.2.2]; exact ⟨row_inj (by rw [hA, ins_end (past_end (by assumption)), hins]), rfl⟩))
      · -- guard no
       refine qn ?_
       refine qn ?_
       refine qn ?_
       refine qn ?_
       refine qn ?_
       refine qn ?_
       refine qn ?_
       refine qn ?_
       refine qy a_pick ?_
       show _
       refine vif (fun hc9 => ?_) (fun hc9 => ?_)
       · -- yes
        first | (exfalso; have hdead := hc9; simp at hdead <;> omega) | (exfalso; simp_all; done)
       · -- no
        refine vc_exit ?_
        refine vc_then ?_
        refine vc_region ?_
        refine vy a_move ?_
        first | refine vy (k_ldr T.ts_27) ?_ | refine vy (k_lda T.ts_27) ?_
        refine vy (a_lit (xs := [_]) (hT := T.ef_22) (hz := T.zs_27)) ?_
        first | refine vs (b_app (hT := T.ef_22) (hw := by first | exact strs_wide | exact fD_wide | (simp [D.cells])) (h63 := by unfold maxLen; (first | omega | (simp only [List.length_map, List.length_append, List.length_nil, List.length_cons]; omega))) (hby := by first | omega | (simp only [List.length_map, List.length_append, List.length_nil, List.length_cons]; omega)) (hzs := by first | exact snoc_map | exact one_map | rfl)) ?_ | refine vy (a_appn (hT := T.ef_22) (hw := by first | exact strs_wide | exact fD_wide | (simp [D.cells])) (h63 := by unfold maxLen; (first | omega | (simp only [List.length_map, List.length_append, List.length_nil, List.length_cons]; omega))) (hby := by first | omega | (simp only [List.length_map, List.length_append, List.length_nil, List.length_cons]; omega))) ?_
        refine vy a_assign ?_
        refine vl_nil ?_
        refine vc_then ?_
        refine vc_block ?_
        refine vk [0] (fun (s : Nat × Nat × List FieldD) e => upd (upd (e) (some 7) (.c (.d (.sc (.int .i64 ((s.1 : Nat) : Int)))))) (some 6) (.c (.own s.2.1 27 (s.2.2.map fD)))) (fun s => s.1 ≤ l.length ∧ (∃ i, i ≤ s.1 ∧ s.2.2 = l.take i ++ f :: (l.drop i).take (s.1 - i) ∧ insF l f = l.take i ++ f :: l.drop i) ∧ (rightS l = true ∧ rightF f = true) ∧ ¬ 0 ≤ indexS l f.at_ ∧ l.length < 16) (fun s => l.length - s.1) (s.1, 51, s.2.2 ++ [f]) ⟨hk, ⟨s.1, Nat.le_refl _, by rw [hA]; simp, (by first | exact ins_at hlt (.inl (past_end (by assumption))) | exact ins_at hlt (.inr ⟨p, hp, by simp_all⟩))⟩, hg⟩ ?_ ?_
        · --
         repeat (first | exact sub_keep_nil | refine su ?_ | refine sk ?_)
        · --
         rintro s ⟨hk, ⟨i, hik, hA, hins⟩, hg⟩
         have hg3 := hg.2.2
         have hAl : s.2.2.length ≤ 17 := by rw [hA]; exact ins_len (n := 16) (by omega)
         refine vc_then ?_
         refine vc_then ?_
         refine vc_region ?_
         refine vy a_move ?_
         refine vy a_move ?_
         refine vy (a_len (hT := T.es_22)) ?_
         refine vy (a_bin (hr := by first | exact pr_add1 (by omega) | exact pr_lss | exact pr_lts)) ?_
         refine vl_nil ?_
         refine vif (fun hc10 => ?_) (fun hc10 => ?_)
         · -- yes
          obtain ⟨p, hp⟩ := elem_at hc10
          have hkl := lt_len hp
          have hok := ho.at hp
          refine vc_skip ?_
          refine vc_block ?_
          refine vc_then ?_
          refine vc_region ?_
          refine vy a_move ?_
          refine vy a_move ?_
          refine vy a_move ?_
          refine vy (a_ix (hT := T.es_22) (h0 := by first | omega | decide) (hy := by exact map_at hp)) ?_
          first | refine vy (k_ldr T.ts_27) ?_ | refine vy (k_lda T.ts_27) ?_
          refine vy (a_lit (xs := [_]) (hT := T.ef_22) (hz := T.zs_27)) ?_
          first | refine vs (b_app (hT := T.ef_22) (hw := by first | exact strs_wide | exact fD_wide | (simp [D.cells])) (h63 := by unfold maxLen; (first | omega | (simp only [List.length_map, List.length_append, List.length_nil, List.length_cons]; omega))) (hby := by first | omega | (simp only [List.length_map, List.length_append, List.length_nil, List.length_cons]; omega)) (hzs := by first | exact snoc_map | exact one_map | rfl)) ?_ | refine vy (a_appn (hT := T.ef_22) (hw := by first | exact strs_wide | exact fD_wide | (simp [D.cells])) (h63 := by unfold maxLen; (first | omega | (simp only [List.length_map, List.length_append, List.length_nil, List.length_cons]; omega))) (hby := by first | omega | (simp only [List.length_map, List.length_append, List.length_nil, List.length_cons]; omega))) ?_
          refine vy a_assign ?_
          refine vl_nil ?_
          refine vc_region ?_
          refine vy a_move ?_
          refine vy (a_bin (hr := by first | exact pr_add1 (by omega) | exact pr_add (by first | exact wrap64 _ (by (first | omega | (simp only [List.length_map, List.length_append, List.length_nil, List.length_cons]; omega))) | rfl) | exact pr_cat (by (first | omega | (simp only [List.length_map, List.length_append, List.length_nil, List.length_cons]; omega))))) ?_
          refine vy a_assign ?_
          refine vl_nil ?_
          refine ⟨_, ?_, (s.1 + 1, 62, s.2.2 ++ [p]), ⟨lt_len hp, ⟨i, by (try dsimp only); omega, by rw [hA]; exact ins_next hik hp, hins⟩, hg⟩, rfl, ?_⟩
          · --
           have := lt_len hp; (try dsimp only); omega
          · --
           repeat (first | exact sub_keep_nil | refine su ?_ | refine sk ?_)
         · -- no
          refine vc_exit ?_
          refine vc_then ?_
          refine vc_region ?_
          refine vy a_move ?_
          refine vy a_assign ?_
          refine vy a_assign ?_
          refine vl_nil ?_
          refine vc_ret ?_
          refine fin ?_
          simp only [fitsL, fits, C.asD, and_true]
          all_goals (first | (rw [with_5 h5]; exact ⟨rfl, rfl⟩) | (rw [with_7 hg1 h7]; exact ⟨rfl, rfl⟩) | (rw [with_14 hg1 hg2 h14]; exact ⟨rfl, rfl⟩) | (rw [with_0 hg.1 hg.2.1 hg.2.2]; exact ⟨row_inj (by rw [hA, ins_end (past_end (by assumption)), hins]), rfl⟩))
end Go.Vm
