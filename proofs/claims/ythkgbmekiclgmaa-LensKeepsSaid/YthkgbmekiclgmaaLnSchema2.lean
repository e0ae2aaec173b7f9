/- The walks of schemas: lists that grow. Printed by lens_schema.py. -/
import Derived.Test.YthkgbmekiclgmaaLnSchema
namespace Go.Vm
open Go.RowKit Go.Proofs
set_option linter.unusedVariables false
set_option linter.unusedSimpArgs false
set_option maxRecDepth 10000

set_option maxHeartbeats 1000000 in
theorem schemaOwn_any (l : List FieldD) (ho : okL l) : Contract Try.prog 14 [.row (l.map fD)] [.d (.row (l.map fD))] := by
 refine fn_of (N := 22) [.tmp 2] Try.func14 ?_
 simp only [envUp, Nat.zero_add, Nat.reduceAdd]
 have hl0 := ho.1
 refine vc_then ?_
 refine vc_region ?_
 refine vy a_assign ?_
 refine vl_nil ?_
 refine vc_then ?_
 refine vc_region ?_
 refine vy a_move ?_
 refine vy (a_len (hT := T.es_22)) ?_
 refine vy (a_make (hT := T.ef_22) (hb := by first | omega | (simp only [List.length_map, List.length_append, List.length_nil, List.length_cons]; omega)) (hm := by unfold maxLen; (first | omega | (simp only [List.length_map, List.length_append, List.length_nil, List.length_cons]; omega)))) ?_
 refine vy a_assign ?_
 refine vl_nil ?_
 refine vc_then ?_
 refine vc_then ?_
 refine vc_region ?_
 refine vy a_move ?_
 refine vy (a_len (hT := T.es_22)) ?_
 refine vy a_move ?_
 refine vl_nil ?_
 refine vc_block ?_
 refine vk [9, 10] (fun (s : Nat × Nat × List FieldD) e => upd (upd (e) (some 11) (.c (.d (.sc (.int .i64 ((s.1 : Nat) : Int)))))) (some 3) (.c (.own s.2.1 27 (s.2.2.map fD)))) (fun s => s.1 ≤ l.length ∧ s.2.2 = l.take s.1 ∧ True) (fun s => l.length - s.1) (0, 8, []) ⟨Nat.zero_le _, rfl, trivial⟩ ?_ ?_
 · --
  repeat (first | exact sub_keep_nil | refine su ?_ | refine sk ?_)
 · --
  rintro s ⟨hk, hA, hi⟩
  have hAl : s.2.2.length ≤ 1000 := by rw [hA]; exact length_take_le ho.1
  refine vc_then ?_
  refine vc_region ?_
  refine vy (a_bin (hr := by first | exact pr_add1 (by omega) | exact pr_lss | exact pr_lts)) ?_
  refine vl_nil ?_
  refine vc_then ?_
  refine vif (fun hc1 => ?_) (fun hc1 => ?_)
  · -- yes
   obtain ⟨p, hp⟩ := elem_at hc1
   have hkl := lt_len hp
   have hok := ho.at hp
   refine vc_skip ?_
   refine vc_then ?_
   refine vc_block ?_
   refine vc_then ?_
   refine vc_region ?_
   refine vy (a_ix (hT := T.es_22) (h0 := by first | omega | decide) (hy := by exact map_at hp)) ?_
   first | refine vy (k_ldr T.ts_27) ?_ | refine vy (k_lda T.ts_27) ?_
   refine vs (b_alloc (hz := T.zo_27)) ?_
   refine vs (b_store T.ts_27) ?_
   refine vl_nil ?_
   refine vc_region ?_
   refine vy a_move ?_
   first | refine vy (k_ldr T.ts_27) ?_ | refine vy (k_lda T.ts_27) ?_
   refine vy (a_call (hf := T.en_66) (hc := by exact fieldOwn_any _ (by assumption))) ?_
   refine vy (a_lit (xs := [_]) (hT := T.ef_22) (hz := T.zs_27)) ?_
   first | refine vs (b_app (hT := T.ef_22) (hw := by first | exact strs_wide | exact fD_wide | (simp [D.cells])) (h63 := by unfold maxLen; (first | omega | (simp only [List.length_map, List.length_append, List.length_nil, List.length_cons]; omega))) (hby := by first | omega | (simp only [List.length_map, List.length_append, List.length_nil, List.length_cons]; omega)) (hzs := by first | exact snoc_map | exact one_map | rfl)) ?_ | refine vy (a_appn (hT := T.ef_22) (hw := by first | exact strs_wide | exact fD_wide | (simp [D.cells])) (h63 := by unfold maxLen; (first | omega | (simp only [List.length_map, List.length_append, List.length_nil, List.length_cons]; omega))) (hby := by first | omega | (simp only [List.length_map, List.length_append, List.length_nil, List.length_cons]; omega))) ?_
   refine vy a_assign ?_
   refine vl_nil ?_
   refine vc_region ?_
   refine vy (a_bin (hr := by first | exact pr_add1 (by omega) | exact pr_add (by first | exact wrap64 _ (by (first | omega | (simp only [List.length_map, List.length_append, List.length_nil, List.length_cons]; omega))) | rfl) | exact pr_cat (by (first | omega | (simp only [List.length_map, List.length_append, List.length_nil, List.length_cons]; omega))))) ?_
   refine vy a_move ?_
   refine vl_nil ?_
   refine ⟨_, ?_, (s.1 + 1, 19, s.2.2 ++ [p]), ⟨lt_len hp, by rw [hA]; exact (take_next hp).symm, trivial⟩, rfl, ?_⟩
   · --
    have := lt_len hp; (try dsimp only); omega
   · --
    repeat (first | exact sub_keep_nil | refine su ?_ | refine sk ?_)
  · -- no
   refine vc_exit ?_
   refine vc_then ?_
   refine vc_region ?_
   refine vy a_move ?_
   refine vy a_assign ?_
   refine vl_nil ?_
   refine vc_ret ?_
   refine fin ?_
   simp only [fitsL, fits, C.asD, and_true]
   all_goals (refine row_inj ?_; rw [hA, List.take_of_length_le (past_end (by assumption))])

set_option maxHeartbeats 1000000 in
theorem schemaFind_any (l : List FieldD) (r : RefD) (ho : okL l) : Contract Try.prog 24 [.row (l.map fD), rD r] [.d (fD (findS l r).1), .d (.sc (.int .i64 (findS l r).2))] := by
 refine fn_of (N := 18) [.cell 4 27, .tmp 5] Try.func24 ?_
 simp only [envUp, Nat.zero_add, Nat.reduceAdd]
 refine vc_then ?_
 refine vc_region ?_
 refine vs b_box ?_
 refine vs (b_alloc (hz := T.zo_27)) ?_
 refine vy a_assign ?_
 refine vl_nil ?_
 refine vc_then ?_
 refine vc_region ?_
 refine vy a_move ?_
 first | refine vy (k_ldr T.ts_24) ?_ | refine vy (k_lda T.ts_24) ?_
 refine vy (a_call (hf := T.en_80) (hc := by exact schemaIndex_any _ _ (by first | assumption | exact ho.1))) ?_
 refine vy a_assign ?_
 refine vl_nil ?_
 refine vc_then ?_
 refine vc_then ?_
 refine vc_region ?_
 refine vy a_move ?_
 refine vy (a_bin (hr := by first | exact pr_lss | exact pr_lts)) ?_
 refine vl_nil ?_
 refine vif (fun hc1 => ?_) (fun hc1 => ?_)
 · -- yes
  have hy := of_decide_eq_true hc1
  refine vc_then ?_
  refine vc_region ?_
  refine vy (a_build (hb := by first | exact rfl | rfl) (hr := by first | exact rfl | rfl)) ?_
  refine vs (b_store T.ts_27) ?_
  refine vy a_assign ?_
  refine vl_nil ?_
  refine vc_ret ?_
  refine fin (hv := by simp only [vres, vres1, pd_all, List.length_cons, List.length_nil, Nat.reduceAdd, Nat.zero_add, Option.map_some, T.ts_27, strD, vget, vd, vc1, vconst, plainV, C.asD, conc, scs, Option.map_some, Option.map_none, ↓upd_get, ↓boxEnv_get, ↓spend_get, noEnv_get, ↓reduceIte, Nat.reduceEqDiff, reduceCtorEq, unref, demote, demoteC, slotV, ↓freshOf_get, fresh1_c, fresh1_at, fresh1_tup, fresh1_junk, ↓keep_get, keep_none]; rfl) ?_
  simp only [fitsL, fits, C.asD, and_true]
  all_goals (first | (rw [find_no hy]; exact ⟨rfl, rfl⟩) | (rw [find_yes hn]; exact ⟨rfl, rfl⟩))
 · -- no
  have hn := of_decide_eq_false hc1
  have hib := index_bound (l := l) (r := r)
  have hi0 : 0 ≤ indexS l r := by omega
  refine vc_skip ?_
  refine vc_then ?_
  refine vc_region ?_
  refine vy a_move ?_
  refine vy a_move ?_
  refine vy (a_ix (hT := T.es_22) (h0 := by first | omega | decide) (hy := by exact fieldAt_ix (of_decide_eq_false (by assumption)))) ?_
  first | refine vy (k_ldr T.ts_27) ?_ | refine vy (k_lda T.ts_27) ?_
  refine vy (a_call (hf := T.en_66) (hc := by exact fieldOwn_any (fieldAt l r) (fieldAt_ok ho hn))) ?_
  refine vs (b_store T.ts_27) ?_
  refine vy a_assign ?_
  refine vl_nil ?_
  refine vc_ret ?_
  refine fin (hv := by simp only [vres, vres1, pd_all, List.length_cons, List.length_nil, Nat.reduceAdd, Nat.zero_add, Option.map_some, T.ts_27, strD, vget, vd, vc1, vconst, plainV, C.asD, conc, scs, Option.map_some, Option.map_none, ↓upd_get, ↓boxEnv_get, ↓spend_get, noEnv_get, ↓reduceIte, Nat.reduceEqDiff, reduceCtorEq, unref, demote, demoteC, slotV, ↓freshOf_get, fresh1_c, fresh1_at, fresh1_tup, fresh1_junk, ↓keep_get, keep_none]; rfl) ?_
  simp only [fitsL, fits, C.asD, and_true]
  all_goals (first | (rw [find_no hy]; exact ⟨rfl, rfl⟩) | (rw [find_yes hn]; exact ⟨rfl, rfl⟩))

set_option maxHeartbeats 1000000 in
theorem schemaWithout_any (l : List FieldD) (r : RefD) (ho : okL l) : Contract Try.prog 68 [.row (l.map fD), rD r] [.d (.row ((withoutS l r).1.map fD)), .d (.sc (.int .i64 (withoutS l r).2))] := by
 refine fn_of (N := 39) [.tmp 4, .tmp 5] Try.func68 ?_
 simp only [envUp, Nat.zero_add, Nat.reduceAdd]
 have hl0 := ho.1
 refine vc_then ?_
 refine vc_region ?_
 refine vs b_box ?_
 refine vy a_assign ?_
 refine vy a_assign ?_
 refine vl_nil ?_
 refine vc_then ?_
 refine vc_then ?_
 refine vc_region ?_
 refine vy a_move ?_
 refine vy (a_call (hf := T.en_18) (hc := by exact schemaRight_any _ (by assumption))) ?_
 refine vy a_not ?_
 refine vl_nil ?_
 refine vif (fun hc1 => ?_) (fun hc1 => ?_)
 · -- yes
  have hr0 : rightS l = false := by simpa using hc1
  refine vc_then ?_
  refine vc_region ?_
  refine vy a_assign ?_
  refine vy a_assign ?_
  refine vl_nil ?_
  refine vc_ret ?_
  refine fin ?_
  simp only [fitsL, fits, C.asD, and_true]
  all_goals (first | (rw [show withoutS l r = ([], 5) from if_pos hr0]; exact ⟨rfl, rfl⟩) | (rw [show withoutS l r = ([], 6) by unfold withoutS; rw [hr, if_neg (by simp), if_pos hy]]; exact ⟨rfl, rfl⟩) | (rw [show withoutS l r = (delF l r, 0) by unfold withoutS; rw [hr, if_neg (by simp), if_neg hn]]; exact ⟨row_inj (by rw [hA, List.take_of_length_le (past_end (by assumption))]), rfl⟩))
 · -- no
  have hr : rightS l = true := by simpa using hc1
  refine vc_skip ?_
  refine vc_then ?_
  refine vc_region ?_
  refine vy a_move ?_
  first | refine vy (k_ldr T.ts_24) ?_ | refine vy (k_lda T.ts_24) ?_
  refine vy (a_call (hf := T.en_80) (hc := by exact schemaIndex_any _ _ (by first | assumption | exact ho.1))) ?_
  refine vy a_assign ?_
  refine vl_nil ?_
  refine vc_then ?_
  refine vc_then ?_
  refine vc_region ?_
  refine vy a_move ?_
  refine vy (a_bin (hr := by first | exact pr_add1 (by omega) | exact pr_sub1 (by omega) (by omega) | exact pr_lss | exact pr_lts)) ?_
  refine vl_nil ?_
  refine vif (fun hc2 => ?_) (fun hc2 => ?_)
  · -- yes
   have hy := of_decide_eq_true hc2
   refine vc_then ?_
   refine vc_region ?_
   refine vy a_assign ?_
   refine vy a_assign ?_
   refine vl_nil ?_
   refine vc_ret ?_
   refine fin ?_
   simp only [fitsL, fits, C.asD, and_true]
   all_goals (first | (rw [show withoutS l r = ([], 5) from if_pos hr0]; exact ⟨rfl, rfl⟩) | (rw [show withoutS l r = ([], 6) by unfold withoutS; rw [hr, if_neg (by simp), if_pos hy]]; exact ⟨rfl, rfl⟩) | (rw [show withoutS l r = (delF l r, 0) by unfold withoutS; rw [hr, if_neg (by simp), if_neg hn]]; exact ⟨row_inj (by rw [hA, List.take_of_length_le (past_end (by assumption))]), rfl⟩))
  · -- no
   have hn := of_decide_eq_false hc2
   have hib := index_bound (l := l) (r := r)
   refine vc_skip ?_
   refine vc_then ?_
   refine vc_region ?_
   refine vy a_move ?_
   refine vy (a_len (hT := T.es_22)) ?_
   refine vy (a_bin (hr := by first | exact pr_add1 (by omega) | exact pr_sub1 (by omega) (by omega) | exact pr_sub (by first | exact wrap64 _ (by (first | omega | (simp only [List.length_map, List.length_append, List.length_nil, List.length_cons]; omega))) | rfl))) ?_
   refine vy (a_make (hT := T.ef_22) (hb := by first | omega | (simp only [List.length_map, List.length_append, List.length_nil, List.length_cons]; omega)) (hm := by unfold maxLen; (first | omega | (simp only [List.length_map, List.length_append, List.length_nil, List.length_cons]; omega)))) ?_
   refine vy a_assign ?_
   refine vl_nil ?_
   refine vc_then ?_
   refine vc_then ?_
   refine vc_region ?_
   refine vy a_move ?_
   refine vy (a_len (hT := T.es_22)) ?_
   refine vy a_move ?_
   refine vl_nil ?_
   refine vc_block ?_
   refine vk [6, 22, 23] (fun (s : Nat × Nat × List FieldD) e => upd (upd (e) (some 24) (.c (.d (.sc (.int .i64 ((s.1 : Nat) : Int)))))) (some 7) (.c (.own s.2.1 27 (s.2.2.map fD)))) (fun s => s.1 ≤ l.length ∧ s.2.2 = delF (l.take s.1) r ∧ True) (fun s => l.length - s.1) (0, 21, []) ⟨Nat.zero_le _, rfl, trivial⟩ ?_ ?_
   · --
    repeat (first | exact sub_keep_nil | refine su ?_ | refine sk ?_)
   · --
    rintro s ⟨hk, hA, hi⟩
    have hAl : s.2.2.length ≤ 1000 := by rw [hA]; exact length_del_le ho.1
    refine vc_then ?_
    refine vc_region ?_
    refine vy (a_bin (hr := by first | exact pr_add1 (by omega) | exact pr_sub1 (by omega) (by omega) | exact pr_lss | exact pr_lts)) ?_
    refine vl_nil ?_
    refine vc_then ?_
    refine vif (fun hc3 => ?_) (fun hc3 => ?_)
    · -- yes
     obtain ⟨p, hp⟩ := elem_at hc3
     have hkl := lt_len hp
     have hok := ho.at hp
     refine vc_skip ?_
     refine vc_then ?_
     refine vc_block ?_
     refine vc_then ?_
     refine vc_region ?_
     refine vy a_move ?_
     refine vy (a_ix (hT := T.es_22) (h0 := by first | omega | decide) (hy := by exact map_at hp)) ?_
     first | refine vy (k_ldr T.ts_27) ?_ | refine vy (k_lda T.ts_27) ?_
     refine vs (b_alloc (hz := T.zo_27)) ?_
     refine vy a_assign ?_
     refine vs (b_store T.ts_27) ?_
     refine vl_nil ?_
     refine vc_then ?_
     refine vc_region ?_
     refine vy a_move ?_
     refine vy a_move ?_
     refine vy (a_bin (hr := by first | exact pr_add1 (by omega) | exact pr_sub1 (by omega) (by omega) | exact pr_neq | exact pr_nes | exact pr_neb Try.underlying3)) ?_
     refine vl_nil ?_
     refine vif (fun hc4 => ?_) (fun hc4 => ?_)
     · -- yes
      have hd : ¬ p.at_ = r := fun e => by simp [(gone_iff hr hn hp).2 e] at hc4
      refine vc_region ?_
      refine vy a_move ?_
      first | refine vy (k_ldr T.ts_27) ?_ | refine vy (k_lda T.ts_27) ?_
      refine vy (a_call (hf := T.en_66) (hc := by exact fieldOwn_any _ (by assumption))) ?_
      refine vy (a_lit (xs := [_]) (hT := T.ef_22) (hz := T.zs_27)) ?_
      first | refine vs (b_app (hT := T.ef_22) (hw := by first | exact strs_wide | exact fD_wide | (simp [D.cells])) (h63 := by unfold maxLen; (first | omega | (simp only [List.length_map, List.length_append, List.length_nil, List.length_cons]; omega))) (hby := by first | omega | (simp only [List.length_map, List.length_append, List.length_nil, List.length_cons]; omega)) (hzs := by first | exact snoc_map | exact one_map | rfl)) ?_ | refine vy (a_appn (hT := T.ef_22) (hw := by first | exact strs_wide | exact fD_wide | (simp [D.cells])) (h63 := by unfold maxLen; (first | omega | (simp only [List.length_map, List.length_append, List.length_nil, List.length_cons]; omega))) (hby := by first | omega | (simp only [List.length_map, List.length_append, List.length_nil, List.length_cons]; omega))) ?_
      refine vy a_assign ?_
      refine vl_nil ?_
      refine vc_region ?_
      refine vy (a_bin (hr := by first | exact pr_add1 (by omega) | exact pr_sub1 (by omega) (by omega) | exact pr_add (by first | exact wrap64 _ (by (first | omega | (simp only [List.length_map, List.length_append, List.length_nil, List.length_cons]; omega))) | rfl) | exact pr_cat (by (first | omega | (simp only [List.length_map, List.length_append, List.length_nil, List.length_cons]; omega))))) ?_
      refine vy a_move ?_
      refine vl_nil ?_
      refine ⟨_, ?_, (s.1 + 1, 36, s.2.2 ++ [p]), ⟨lt_len hp, by rw [hA, filter_next hp, if_neg hd], trivial⟩, rfl, ?_⟩
      · --
       have := lt_len hp; (try dsimp only); omega
      · --
       repeat (first | exact sub_keep_nil | refine su ?_ | refine sk ?_)
     · -- no
      have hd : p.at_ = r := (gone_iff hr hn hp).1 (by simpa using hc4)
      refine vc_skip ?_
      refine vc_region ?_
      refine vy (a_bin (hr := by first | exact pr_add1 (by omega) | exact pr_sub1 (by omega) (by omega) | exact pr_add (by first | exact wrap64 _ (by (first | omega | (simp only [List.length_map, List.length_append, List.length_nil, List.length_cons]; omega))) | rfl) | exact pr_cat (by (first | omega | (simp only [List.length_map, List.length_append, List.length_nil, List.length_cons]; omega))))) ?_
      refine vy a_move ?_
      refine vl_nil ?_
      refine ⟨_, ?_, (s.1 + 1, s.2.1, s.2.2), ⟨lt_len hp, by rw [hA, filter_next hp, if_pos hd, List.append_nil], trivial⟩, rfl, ?_⟩
      · --
       have := lt_len hp; (try dsimp only); omega
      · --
       repeat (first | exact sub_keep_nil | refine su ?_ | refine sk ?_)
    · -- no
     refine vc_exit ?_
     refine vc_then ?_
     refine vc_region ?_
     refine vy a_move ?_
     refine vy a_assign ?_
     refine vy a_assign ?_
     refine vl_nil ?_
     refine vc_ret ?_
     refine fin ?_
     simp only [fitsL, fits, C.asD, and_true]
     all_goals (first | (rw [show withoutS l r = ([], 5) from if_pos hr0]; exact ⟨rfl, rfl⟩) | (rw [show withoutS l r = ([], 6) by unfold withoutS; rw [hr, if_neg (by simp), if_pos hy]]; exact ⟨rfl, rfl⟩) | (rw [show withoutS l r = (delF l r, 0) by unfold withoutS; rw [hr, if_neg (by simp), if_neg hn]]; exact ⟨row_inj (by rw [hA, List.take_of_length_le (past_end (by assumption))]), rfl⟩))

set_option maxHeartbeats 1000000 in
theorem refSchemaWithout_any (l : List FieldD) (r : RefD) (ho : okL l) : Contract Try.prog 70 [.row (l.map fD), rD r] [.d (.row ((withoutS l r).1.map fD)), .d (.sc (.int .i64 (withoutS l r).2))] := by
 refine fn_of (N := 37) [.tmp 4, .tmp 5] Try.func70 ?_
 simp only [envUp, Nat.zero_add, Nat.reduceAdd]
 have hl0 := ho.1
 refine vc_then ?_
 refine vc_region ?_
 refine vs b_box ?_
 refine vy a_assign ?_
 refine vy a_assign ?_
 refine vl_nil ?_
 refine vc_then ?_
 refine vc_then ?_
 refine vc_region ?_
 refine vy a_move ?_
 refine vy (a_call (hf := T.en_19) (hc := by exact refSchemaRight_any _ (by assumption))) ?_
 refine vy a_not ?_
 refine vl_nil ?_
 refine vif (fun hc1 => ?_) (fun hc1 => ?_)
 · -- yes
  have hr0 : rightS l = false := by simpa using hc1
  refine vc_then ?_
  refine vc_region ?_
  refine vy a_assign ?_
  refine vy a_assign ?_
  refine vl_nil ?_
  refine vc_ret ?_
  refine fin ?_
  simp only [fitsL, fits, C.asD, and_true]
  all_goals (first | (rw [show withoutS l r = ([], 5) from if_pos hr0]; exact ⟨rfl, rfl⟩) | (rw [show withoutS l r = ([], 6) by unfold withoutS; rw [hr, if_neg (by simp), if_pos hy]]; exact ⟨rfl, rfl⟩) | (rw [show withoutS l r = (delF l r, 0) by unfold withoutS; rw [hr, if_neg (by simp), if_neg hn]]; exact ⟨row_inj (by rw [hA, List.take_of_length_le (past_end (by assumption))]), rfl⟩))
 · -- no
  have hr : rightS l = true := by simpa using hc1
  refine vc_skip ?_
  refine vc_then ?_
  refine vc_then ?_
  refine vc_region ?_
  refine vy a_move ?_
  first | refine vy (k_ldr T.ts_24) ?_ | refine vy (k_lda T.ts_24) ?_
  refine vy (a_call (hf := T.en_22) (hc := by exact refSchemaAt_any _ _ (by first | assumption | exact ho.1))) ?_
  refine vy (a_bin (hr := by first | exact pr_add1 (by omega) | exact pr_sub1 (by omega) (by omega) | exact pr_lss | exact pr_lts)) ?_
  refine vl_nil ?_
  refine vif (fun hc2 => ?_) (fun hc2 => ?_)
  · -- yes
   have hy := of_decide_eq_true hc2
   refine vc_then ?_
   refine vc_region ?_
   refine vy a_assign ?_
   refine vy a_assign ?_
   refine vl_nil ?_
   refine vc_ret ?_
   refine fin ?_
   simp only [fitsL, fits, C.asD, and_true]
   all_goals (first | (rw [show withoutS l r = ([], 5) from if_pos hr0]; exact ⟨rfl, rfl⟩) | (rw [show withoutS l r = ([], 6) by unfold withoutS; rw [hr, if_neg (by simp), if_pos hy]]; exact ⟨rfl, rfl⟩) | (rw [show withoutS l r = (delF l r, 0) by unfold withoutS; rw [hr, if_neg (by simp), if_neg hn]]; exact ⟨row_inj (by rw [hA, List.take_of_length_le (past_end (by assumption))]), rfl⟩))
  · -- no
   have hn := of_decide_eq_false hc2
   have hib := index_bound (l := l) (r := r)
   refine vc_skip ?_
   refine vc_then ?_
   refine vc_region ?_
   refine vy (a_lit (xs := []) (hT := T.ef_22) (hz := T.zs_27) (hw := by intro x hx; cases hx)) ?_
   refine vy a_assign ?_
   refine vl_nil ?_
   refine vc_then ?_
   refine vc_then ?_
   refine vc_region ?_
   refine vy a_assign ?_
   refine vl_nil ?_
   refine vc_block ?_
   refine vk [0, 3] (fun (s : Nat × Nat × List FieldD) e => upd (upd (e) (some 7) (.c (.d (.sc (.int .i64 ((s.1 : Nat) : Int)))))) (some 6) (.c (.own s.2.1 27 (s.2.2.map fD)))) (fun s => s.1 ≤ l.length ∧ s.2.2 = delF (l.take s.1) r ∧ True) (fun s => l.length - s.1) (0, 15, []) ⟨Nat.zero_le _, rfl, trivial⟩ ?_ ?_
   · --
    repeat (first | exact sub_keep_nil | refine su ?_ | refine sk ?_)
   · --
    rintro s ⟨hk, hA, hi⟩
    have hAl : s.2.2.length ≤ 1000 := by rw [hA]; exact length_del_le ho.1
    refine vc_then ?_
    refine vc_then ?_
    refine vc_region ?_
    refine vy a_move ?_
    refine vy a_move ?_
    refine vy (a_len (hT := T.es_22)) ?_
    refine vy (a_bin (hr := by first | exact pr_add1 (by omega) | exact pr_sub1 (by omega) (by omega) | exact pr_lss | exact pr_lts)) ?_
    refine vl_nil ?_
    refine vif (fun hc3 => ?_) (fun hc3 => ?_)
    · -- yes
     obtain ⟨p, hp⟩ := elem_at hc3
     have hkl := lt_len hp
     have hok := ho.at hp
     refine vc_skip ?_
     refine vc_then ?_
     refine vc_block ?_
     refine vc_then ?_
     refine vc_drawn0 T.mixed ?_
     refine qy a_move ?_
     refine qy a_move ?_
     refine qy (a_ix (hT := T.es_22) (h0 := by first | omega | decide) (hy := by exact map_at hp)) ?_
     first | refine qy (a_fr (hf := T.fo_27_0)) ?_ | refine qy (a_fa (hf := T.fo_27_0)) ?_
     first | refine qy (k_ldr T.ts_24) ?_ | refine qy (k_lda T.ts_24) ?_
     first | refine qy (k_ldr T.ts_24) ?_ | refine qy (k_lda T.ts_24) ?_
     refine qy ne_24 ?_
     show _
     refine vif (fun hc4 => ?_) (fun hc4 => ?_)
     · -- yes
      have hd : ¬ p.at_ = r := by simpa using hc4
      refine vc_region ?_
      refine vy a_move ?_
      refine vy a_move ?_
      refine vy a_move ?_
      refine vy (a_ix (hT := T.es_22) (h0 := by first | omega | decide) (hy := by exact map_at hp)) ?_
      first | refine vy (k_ldr T.ts_27) ?_ | refine vy (k_lda T.ts_27) ?_
      refine vy (a_lit (xs := [_]) (hT := T.ef_22) (hz := T.zs_27)) ?_
      first | refine vs (b_app (hT := T.ef_22) (hw := by first | exact strs_wide | exact fD_wide | (simp [D.cells])) (h63 := by unfold maxLen; (first | omega | (simp only [List.length_map, List.length_append, List.length_nil, List.length_cons]; omega))) (hby := by first | omega | (simp only [List.length_map, List.length_append, List.length_nil, List.length_cons]; omega)) (hzs := by first | exact snoc_map | exact one_map | rfl)) ?_ | refine vy (a_appn (hT := T.ef_22) (hw := by first | exact strs_wide | exact fD_wide | (simp [D.cells])) (h63 := by unfold maxLen; (first | omega | (simp only [List.length_map, List.length_append, List.length_nil, List.length_cons]; omega))) (hby := by first | omega | (simp only [List.length_map, List.length_append, List.length_nil, List.length_cons]; omega))) ?_
      refine vy a_assign ?_
      refine vl_nil ?_
      refine vc_region ?_
      refine vy a_move ?_
      refine vy (a_bin (hr := by first | exact pr_add1 (by omega) | exact pr_sub1 (by omega) (by omega) | exact pr_add (by first | exact wrap64 _ (by (first | omega | (simp only [List.length_map, List.length_append, List.length_nil, List.length_cons]; omega))) | rfl) | exact pr_cat (by (first | omega | (simp only [List.length_map, List.length_append, List.length_nil, List.length_cons]; omega))))) ?_
      refine vy a_assign ?_
      refine vl_nil ?_
      refine ⟨_, ?_, (s.1 + 1, 35, s.2.2 ++ [p]), ⟨lt_len hp, by rw [hA, filter_next hp, if_neg hd], trivial⟩, rfl, ?_⟩
      · --
       have := lt_len hp; (try dsimp only); omega
      · --
       repeat (first | exact sub_keep_nil | refine su ?_ | refine sk ?_)
     · -- no
      have hd : p.at_ = r := by simpa using hc4
      refine vc_skip ?_
      refine vc_region ?_
      refine vy a_move ?_
      refine vy (a_bin (hr := by first | exact pr_add1 (by omega) | exact pr_sub1 (by omega) (by omega) | exact pr_add (by first | exact wrap64 _ (by (first | omega | (simp only [List.length_map, List.length_append, List.length_nil, List.length_cons]; omega))) | rfl) | exact pr_cat (by (first | omega | (simp only [List.length_map, List.length_append, List.length_nil, List.length_cons]; omega))))) ?_
      refine vy a_assign ?_
      refine vl_nil ?_
      refine ⟨_, ?_, (s.1 + 1, s.2.1, s.2.2), ⟨lt_len hp, by rw [hA, filter_next hp, if_pos hd, List.append_nil], trivial⟩, rfl, ?_⟩
      · --
       have := lt_len hp; (try dsimp only); omega
      · --
       repeat (first | exact sub_keep_nil | refine su ?_ | refine sk ?_)
    · -- no
     refine vc_exit ?_
     refine vc_then ?_
     refine vc_region ?_
     refine vy a_move ?_
     refine vy a_assign ?_
     refine vy a_assign ?_
     refine vl_nil ?_
     refine vc_ret ?_
     refine fin ?_
     simp only [fitsL, fits, C.asD, and_true]
     all_goals (first | (rw [show withoutS l r = ([], 5) from if_pos hr0]; exact ⟨rfl, rfl⟩) | (rw [show withoutS l r = ([], 6) by unfold withoutS; rw [hr, if_neg (by simp), if_pos hy]]; exact ⟨rfl, rfl⟩) | (rw [show withoutS l r = (delF l r, 0) by unfold withoutS; rw [hr, if_neg (by simp), if_neg hn]]; exact ⟨row_inj (by rw [hA, List.take_of_length_le (past_end (by assumption))]), rfl⟩))
end Go.Vm
