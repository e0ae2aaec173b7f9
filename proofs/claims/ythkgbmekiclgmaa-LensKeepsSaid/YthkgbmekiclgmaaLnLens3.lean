/- The walks of lenses: places that go and come. Printed by lens_lens.py. -/
import Derived.Test.YthkgbmekiclgmaaLnLens2
namespace Go.Vm
open Go.RowKit Go.Proofs
set_option linter.unusedVariables false
set_option linter.unusedSimpArgs false
set_option maxRecDepth 10000

theorem goes_2 {x : LensD} (h : x.kind = 2) : goesL x = [] := by simp [goesL, h]
theorem goes_3 {x : LensD} (h : x.kind = 3) : goesL x = [x.field.at_] := by simp [goesL, h]
theorem goes_9 {x : LensD} (h : x.kind = 9) : goesL x = [named x.at_ x.name, named x.at_ x.other] := by simp [goesL, h]
theorem goes_o {x : LensD} (h2 : ¬ x.kind = 2) (h3 : ¬ x.kind = 3) (h9 : ¬ x.kind = 9) : goesL x = [x.at_] := by simp [goesL, h2, h3, h9]
theorem comes_2 {x : LensD} (h : x.kind = 2) : comesL x = [x.field.at_] := by simp [comesL, h]
theorem comes_3 {x : LensD} (h : x.kind = 3) : comesL x = [] := by simp [comesL, h]
theorem comes_6 {x : LensD} (h : x.kind = 6) : comesL x = [named x.at_ x.name, named x.at_ x.other] := by simp [comesL, h]
theorem comes_1 {x : LensD} (h : x.kind = 1) : comesL x = [named x.at_ x.name] := by simp [comesL, h]
theorem comes_4 {x : LensD} (h : x.kind = 4) : comesL x = [⟨x.at_.scope, noB, x.at_.name⟩] := by simp [comesL, h]
theorem comes_5 {x : LensD} (h : x.kind = 5) : comesL x = [⟨x.at_.scope, x.name, x.at_.name⟩] := by simp [comesL, h]
theorem comes_o {x : LensD} (h1 : ¬ x.kind = 1) (h2 : ¬ x.kind = 2) (h3 : ¬ x.kind = 3) (h4 : ¬ x.kind = 4) (h5 : ¬ x.kind = 5) (h6 : ¬ x.kind = 6) : comesL x = [x.at_] := by simp [comesL, h1, h2, h3, h4, h5, h6]

set_option maxHeartbeats 1000000 in
theorem named_any (r : RefD) (s : ByteArray) : Contract Try.prog 96 [rD r, .sc (.string s)] [.d (rD (named r s))] := by
 refine fn_of (N := 8) [.cell 4 24] Try.func96 ?_
 simp only [envUp, Nat.zero_add, Nat.reduceAdd]
 refine vc_then ?_
 refine vc_region ?_
 refine vs b_box ?_
 refine vs (b_alloc (hz := T.zo_24)) ?_
 refine vl_nil ?_
 refine vc_then ?_
 refine vc_region ?_
 refine vy a_move ?_
 first | refine vy (a_fr (hf := T.fo_24_2)) ?_ | refine vy (a_fa (hf := T.fo_24_2)) ?_
 refine vs (b_store T.ts_9) ?_
 refine vl_nil ?_
 refine vc_then ?_
 refine vc_region ?_
 first | refine vy (k_ldr T.ts_24) ?_ | refine vy (k_lda T.ts_24) ?_
 refine vs (b_store T.ts_24) ?_
 refine vl_nil ?_
 refine vc_ret ?_
 refine fin (hv := by simp only [vres, vres1, pd_all, List.length_cons, List.length_nil, Nat.reduceAdd, Nat.zero_add, Option.map_some, T.ts_24, strD, vget, vd, vc1, vconst, plainV, C.asD, conc, scs, Option.map_some, Option.map_none, ↓upd_get, ↓boxEnv_get, ↓spend_get, noEnv_get, ↓reduceIte, Nat.reduceEqDiff, reduceCtorEq, unref, demote, demoteC, slotV, ↓freshOf_get, fresh1_c, fresh1_at, fresh1_tup, fresh1_junk, ↓keep_get, keep_none]; rfl) ?_
 simp only [fitsL, fits, C.asD, and_true]
 all_goals (rfl)

set_option maxHeartbeats 1000000 in
theorem beside_any (r : RefD) (s : ByteArray) : Contract Try.prog 79 [rD r, .sc (.string s)] [.d (rD (named r s))] := by
 refine fn_of (N := 11) [.cell 4 24] Try.func79 ?_
 simp only [envUp, Nat.zero_add, Nat.reduceAdd]
 refine vc_then ?_
 refine vc_region ?_
 refine vs b_box ?_
 refine vs (b_alloc (hz := T.zo_24)) ?_
 refine vl_nil ?_
 refine vc_then ?_
 refine vc_region ?_
 first | refine vy (a_fr (hf := T.fo_24_0)) ?_ | refine vy (a_fa (hf := T.fo_24_0)) ?_
 first | refine vy (k_ldr T.ts_3) ?_ | refine vy (k_lda T.ts_3) ?_
 first | refine vy (a_fr (hf := T.fo_24_1)) ?_ | refine vy (a_fa (hf := T.fo_24_1)) ?_
 first | refine vy (k_ldr T.ts_9) ?_ | refine vy (k_lda T.ts_9) ?_
 refine vy a_move ?_
 refine vy (a_build (hb := by first | exact rfl | rfl) (hr := by first | rfl)) ?_
 refine vs (b_store T.ts_24) ?_
 refine vl_nil ?_
 refine vc_ret ?_
 refine fin (hv := by simp only [vres, vres1, pd_all, List.length_cons, List.length_nil, Nat.reduceAdd, Nat.zero_add, Option.map_some, T.ts_24, strD, vget, vd, vc1, vconst, plainV, C.asD, conc, scs, Option.map_some, Option.map_none, ↓upd_get, ↓boxEnv_get, ↓spend_get, noEnv_get, ↓reduceIte, Nat.reduceEqDiff, reduceCtorEq, unref, demote, demoteC, slotV, ↓freshOf_get, fresh1_c, fresh1_at, fresh1_tup, fresh1_junk, ↓keep_get, keep_none]; rfl) ?_
 simp only [fitsL, fits, C.asD, and_true]
 all_goals (rfl)

set_option maxHeartbeats 1000000 in
theorem lensGoes_any (x : LensD) (hx0 : okX x) : Contract Try.prog 20 [lD x] [.d (.row ((if rightL x = true then goesL x else []).map rD))] := by
 refine fn_of (N := 32) [.tmp 2] Try.func20 ?_
 simp only [envUp, Nat.zero_add, Nat.reduceAdd]
 refine vc_then ?_
 refine vc_region ?_
 refine vs b_box ?_
 refine vy a_assign ?_
 refine vl_nil ?_
 refine vc_then ?_
 refine vc_then ?_
 refine vc_region ?_
 first | refine vy (k_ldr T.ts_30) ?_ | refine vy (k_lda T.ts_30) ?_
 refine vy (a_call (hf := T.en_29) (hc := by exact lensRight_any _ hx0)) ?_
 refine vy a_not ?_
 refine vl_nil ?_
 refine vif (fun hc1 => ?_) (fun hc1 => ?_)
 · -- yes
  have hr0 : ¬ rightL x = true := by simpa using hc1
  refine vc_then ?_
  refine vc_region ?_
  refine vy a_assign ?_
  refine vl_nil ?_
  refine vc_ret ?_
  refine fin ?_
  simp only [fitsL, fits, C.asD, and_true]
  all_goals (first | (rw [if_neg hr0]; rfl) | (rw [if_pos hr1, goes_2 hkkind_2]; rfl) | (rw [if_pos hr1, goes_3 hkkind_3]; rfl) | (rw [if_pos hr1, goes_9 hkkind_9]; rfl) | (rw [if_pos hr1, goes_o hnkind_2 hnkind_3 hnkind_9]; rfl))
 · -- no
  have hr1 : rightL x = true := by simpa using hc1
  refine vc_skip ?_
  refine vc_then ?_
  refine vc_then ?_
  refine vc_region ?_
  first | refine vy (a_fr (hf := T.fo_30_0)) ?_ | refine vy (a_fa (hf := T.fo_30_0)) ?_
  first | refine vy (k_ldr T.ts_3) ?_ | refine vy (k_lda T.ts_3) ?_
  refine vl_nil ?_
  refine vc_block ?_
  refine vc_then ?_
  refine vc_region ?_
  refine vy (a_bin (hr := by first | exact pr_eql | exact pr_eqs | exact pr_eqb Try.underlying3)) ?_
  refine vy a_assign ?_
  refine vl_nil ?_
  refine vif (fun hc2 => ?_) (fun hc2 => ?_)
  · -- yes
   have hkkind_2 : x.kind = 2 := by simpa using hc2
   refine vc_then ?_
   refine vc_region ?_
   refine vy a_assign ?_
   refine vl_nil ?_
   refine vc_ret ?_
   refine fin ?_
   simp only [fitsL, fits, C.asD, and_true]
   all_goals (first | (rw [if_neg hr0]; rfl) | (rw [if_pos hr1, goes_2 hkkind_2]; rfl) | (rw [if_pos hr1, goes_3 hkkind_3]; rfl) | (rw [if_pos hr1, goes_9 hkkind_9]; rfl) | (rw [if_pos hr1, goes_o hnkind_2 hnkind_3 hnkind_9]; rfl))
  · -- no
   have hnkind_2 : ¬ x.kind = 2 := by simpa using hc2
   refine vc_then ?_
   refine vc_region ?_
   refine vy (a_bin (hr := by first | exact pr_eql | exact pr_eqs | exact pr_eqb Try.underlying3)) ?_
   refine vy a_assign ?_
   refine vl_nil ?_
   refine vif (fun hc3 => ?_) (fun hc3 => ?_)
   · -- yes
    have hkkind_3 : x.kind = 3 := by simpa using hc3
    refine vc_then ?_
    refine vc_region ?_
    first | refine vy (a_fr (hf := T.fo_30_5)) ?_ | refine vy (a_fa (hf := T.fo_30_5)) ?_
    first | refine vy (a_fr (hf := T.fo_27_0)) ?_ | refine vy (a_fa (hf := T.fo_27_0)) ?_
    first | refine vy (k_ldr T.ts_24) ?_ | refine vy (k_lda T.ts_24) ?_
    refine vy (a_lit (xs := [_]) (hT := T.ef_40) (hz := T.zs_24)) ?_
    refine vy a_assign ?_
    refine vl_nil ?_
    refine vc_ret ?_
    refine fin ?_
    simp only [fitsL, fits, C.asD, and_true]
    all_goals (first | (rw [if_neg hr0]; rfl) | (rw [if_pos hr1, goes_2 hkkind_2]; rfl) | (rw [if_pos hr1, goes_3 hkkind_3]; rfl) | (rw [if_pos hr1, goes_9 hkkind_9]; rfl) | (rw [if_pos hr1, goes_o hnkind_2 hnkind_3 hnkind_9]; rfl))
   · -- no
    have hnkind_3 : ¬ x.kind = 3 := by simpa using hc3
    refine vc_then ?_
    refine vc_region ?_
    refine vy (a_bin (hr := by first | exact pr_eql | exact pr_eqs | exact pr_eqb Try.underlying3)) ?_
    refine vy a_assign ?_
    refine vl_nil ?_
    refine vif (fun hc4 => ?_) (fun hc4 => ?_)
    · -- yes
     have hkkind_9 : x.kind = 9 := by simpa using hc4
     refine vc_then ?_
     refine vc_drawn0 T.mixed ?_
     first | refine qy (a_fr (hf := T.fo_30_1)) ?_ | refine qy (a_fa (hf := T.fo_30_1)) ?_
     first | refine qy (k_ldr T.ts_24) ?_ | refine qy (k_lda T.ts_24) ?_
     first | refine qy (a_fr (hf := T.fo_30_2)) ?_ | refine qy (a_fa (hf := T.fo_30_2)) ?_
     first | refine qy (k_ldr T.ts_9) ?_ | refine qy (k_lda T.ts_9) ?_
     refine qy (a_call (hf := T.en_79) (hc := by exact beside_any _ _)) ?_
     first | refine qy (a_fr (hf := T.fo_30_1)) ?_ | refine qy (a_fa (hf := T.fo_30_1)) ?_
     first | refine qy (k_ldr T.ts_24) ?_ | refine qy (k_lda T.ts_24) ?_
     first | refine qy (a_fr (hf := T.fo_30_3)) ?_ | refine qy (a_fa (hf := T.fo_30_3)) ?_
     first | refine qy (k_ldr T.ts_9) ?_ | refine qy (k_lda T.ts_9) ?_
     refine qy (a_call (hf := T.en_79) (hc := by exact beside_any _ _)) ?_
     refine qy (a_lit (xs := [_, _]) (hT := T.ef_40) (hz := T.zs_24)) ?_
     refine qy a_assign ?_
     show _
     refine vc_ret ?_
     refine fin ?_
     simp only [fitsL, fits, C.asD, and_true]
     all_goals (first | (rw [if_neg hr0]; rfl) | (rw [if_pos hr1, goes_2 hkkind_2]; rfl) | (rw [if_pos hr1, goes_3 hkkind_3]; rfl) | (rw [if_pos hr1, goes_9 hkkind_9]; rfl) | (rw [if_pos hr1, goes_o hnkind_2 hnkind_3 hnkind_9]; rfl))
    · -- no
     have hnkind_9 : ¬ x.kind = 9 := by simpa using hc4
     refine vc_skip ?_
     refine vc_then ?_
     refine vc_region ?_
     first | refine vy (a_fr (hf := T.fo_30_1)) ?_ | refine vy (a_fa (hf := T.fo_30_1)) ?_
     first | refine vy (k_ldr T.ts_24) ?_ | refine vy (k_lda T.ts_24) ?_
     refine vy (a_lit (xs := [_]) (hT := T.ef_40) (hz := T.zs_24)) ?_
     refine vy a_assign ?_
     refine vl_nil ?_
     refine vc_ret ?_
     refine fin ?_
     simp only [fitsL, fits, C.asD, and_true]
     all_goals (first | (rw [if_neg hr0]; rfl) | (rw [if_pos hr1, goes_2 hkkind_2]; rfl) | (rw [if_pos hr1, goes_3 hkkind_3]; rfl) | (rw [if_pos hr1, goes_9 hkkind_9]; rfl) | (rw [if_pos hr1, goes_o hnkind_2 hnkind_3 hnkind_9]; rfl))

set_option maxHeartbeats 1000000 in
theorem lensComes_any (x : LensD) (hx0 : okX x) : Contract Try.prog 21 [lD x] [.d (.row ((if rightL x = true then comesL x else []).map rD))] := by
 refine fn_of (N := 62) [.tmp 2] Try.func21 ?_
 simp only [envUp, Nat.zero_add, Nat.reduceAdd]
 refine vc_then ?_
 refine vc_region ?_
 refine vs b_box ?_
 refine vy a_assign ?_
 refine vl_nil ?_
 refine vc_then ?_
 refine vc_then ?_
 refine vc_region ?_
 first | refine vy (k_ldr T.ts_30) ?_ | refine vy (k_lda T.ts_30) ?_
 refine vy (a_call (hf := T.en_29) (hc := by exact lensRight_any _ hx0)) ?_
 refine vy a_not ?_
 refine vl_nil ?_
 refine vif (fun hc1 => ?_) (fun hc1 => ?_)
 · -- yes
  have hr0 : ¬ rightL x = true := by simpa using hc1
  refine vc_then ?_
  refine vc_region ?_
  refine vy a_assign ?_
  refine vl_nil ?_
  refine vc_ret ?_
  refine fin ?_
  simp only [fitsL, fits, C.asD, and_true]
  all_goals (first | (rw [if_neg hr0]; rfl) | (rw [if_pos hr1, comes_2 hkkind_2]; rfl) | (rw [if_pos hr1, comes_3 hkkind_3]; rfl) | (rw [if_pos hr1, comes_6 hkkind_6]; rfl) | (rw [if_pos hr1, comes_1 hkkind_1]; rfl) | (rw [if_pos hr1, comes_4 hkkind_4]; rfl) | (rw [if_pos hr1, comes_5 hkkind_5]; rfl) | (rw [if_pos hr1, comes_o hnkind_1 hnkind_2 hnkind_3 hnkind_4 hnkind_5 hnkind_6]; rfl))
 · -- no
  have hr1 : rightL x = true := by simpa using hc1
  refine vc_skip ?_
  refine vc_then ?_
  refine vc_then ?_
  refine vc_region ?_
  first | refine vy (a_fr (hf := T.fo_30_0)) ?_ | refine vy (a_fa (hf := T.fo_30_0)) ?_
  first | refine vy (k_ldr T.ts_3) ?_ | refine vy (k_lda T.ts_3) ?_
  refine vl_nil ?_
  refine vc_block ?_
  refine vc_then ?_
  refine vc_region ?_
  refine vy (a_bin (hr := by first | exact pr_eql | exact pr_eqs | exact pr_eqb Try.underlying3)) ?_
  refine vy a_assign ?_
  refine vl_nil ?_
  refine vif (fun hc2 => ?_) (fun hc2 => ?_)
  · -- yes
   have hkkind_1 : x.kind = 1 := by simpa using hc2
   refine vc_then ?_
   refine vc_region ?_
   first | refine vy (a_fr (hf := T.fo_30_1)) ?_ | refine vy (a_fa (hf := T.fo_30_1)) ?_
   first | refine vy (k_ldr T.ts_24) ?_ | refine vy (k_lda T.ts_24) ?_
   first | refine vy (a_fr (hf := T.fo_30_2)) ?_ | refine vy (a_fa (hf := T.fo_30_2)) ?_
   first | refine vy (k_ldr T.ts_9) ?_ | refine vy (k_lda T.ts_9) ?_
   refine vy (a_call (hf := T.en_79) (hc := by exact beside_any _ _)) ?_
   refine vy (a_lit (xs := [_]) (hT := T.ef_40) (hz := T.zs_24)) ?_
   refine vy a_assign ?_
   refine vl_nil ?_
   refine vc_ret ?_
   refine fin ?_
   simp only [fitsL, fits, C.asD, and_true]
   all_goals (first | (rw [if_neg hr0]; rfl) | (rw [if_pos hr1, comes_2 hkkind_2]; rfl) | (rw [if_pos hr1, comes_3 hkkind_3]; rfl) | (rw [if_pos hr1, comes_6 hkkind_6]; rfl) | (rw [if_pos hr1, comes_1 hkkind_1]; rfl) | (rw [if_pos hr1, comes_4 hkkind_4]; rfl) | (rw [if_pos hr1, comes_5 hkkind_5]; rfl) | (rw [if_pos hr1, comes_o hnkind_1 hnkind_2 hnkind_3 hnkind_4 hnkind_5 hnkind_6]; rfl))
  · -- no
   have hnkind_1 : ¬ x.kind = 1 := by simpa using hc2
   refine vc_then ?_
   refine vc_region ?_
   refine vy (a_bin (hr := by first | exact pr_eql | exact pr_eqs | exact pr_eqb Try.underlying3)) ?_
   refine vy a_assign ?_
   refine vl_nil ?_
   refine vif (fun hc3 => ?_) (fun hc3 => ?_)
   · -- yes
    have hkkind_2 : x.kind = 2 := by simpa using hc3
    refine vc_then ?_
    refine vc_region ?_
    first | refine vy (a_fr (hf := T.fo_30_5)) ?_ | refine vy (a_fa (hf := T.fo_30_5)) ?_
    first | refine vy (a_fr (hf := T.fo_27_0)) ?_ | refine vy (a_fa (hf := T.fo_27_0)) ?_
    first | refine vy (k_ldr T.ts_24) ?_ | refine vy (k_lda T.ts_24) ?_
    refine vy (a_lit (xs := [_]) (hT := T.ef_40) (hz := T.zs_24)) ?_
    refine vy a_assign ?_
    refine vl_nil ?_
    refine vc_ret ?_
    refine fin ?_
    simp only [fitsL, fits, C.asD, and_true]
    all_goals (first | (rw [if_neg hr0]; rfl) | (rw [if_pos hr1, comes_2 hkkind_2]; rfl) | (rw [if_pos hr1, comes_3 hkkind_3]; rfl) | (rw [if_pos hr1, comes_6 hkkind_6]; rfl) | (rw [if_pos hr1, comes_1 hkkind_1]; rfl) | (rw [if_pos hr1, comes_4 hkkind_4]; rfl) | (rw [if_pos hr1, comes_5 hkkind_5]; rfl) | (rw [if_pos hr1, comes_o hnkind_1 hnkind_2 hnkind_3 hnkind_4 hnkind_5 hnkind_6]; rfl))
   · -- no
    have hnkind_2 : ¬ x.kind = 2 := by simpa using hc3
    refine vc_then ?_
    refine vc_region ?_
    refine vy (a_bin (hr := by first | exact pr_eql | exact pr_eqs | exact pr_eqb Try.underlying3)) ?_
    refine vy a_assign ?_
    refine vl_nil ?_
    refine vif (fun hc4 => ?_) (fun hc4 => ?_)
    · -- yes
     have hkkind_3 : x.kind = 3 := by simpa using hc4
     refine vc_then ?_
     refine vc_region ?_
     refine vy a_assign ?_
     refine vl_nil ?_
     refine vc_ret ?_
     refine fin ?_
     simp only [fitsL, fits, C.asD, and_true]
     all_goals (first | (rw [if_neg hr0]; rfl) | (rw [if_pos hr1, comes_2 hkkind_2]; rfl) | (rw [if_pos hr1, comes_3 hkkind_3]; rfl) | (rw [if_pos hr1, comes_6 hkkind_6]; rfl) | (rw [if_pos hr1, comes_1 hkkind_1]; rfl) | (rw [if_pos hr1, comes_4 hkkind_4]; rfl) | (rw [if_pos hr1, comes_5 hkkind_5]; rfl) | (rw [if_pos hr1, comes_o hnkind_1 hnkind_2 hnkind_3 hnkind_4 hnkind_5 hnkind_6]; rfl))
    · -- no
     have hnkind_3 : ¬ x.kind = 3 := by simpa using hc4
     refine vc_then ?_
     refine vc_region ?_
     refine vy (a_bin (hr := by first | exact pr_eql | exact pr_eqs | exact pr_eqb Try.underlying3)) ?_
     refine vy a_assign ?_
     refine vl_nil ?_
     refine vif (fun hc5 => ?_) (fun hc5 => ?_)
     · -- yes
      have hkkind_4 : x.kind = 4 := by simpa using hc5
      refine vc_then ?_
      refine vc_region ?_
      first | refine vy (a_fr (hf := T.fo_30_1)) ?_ | refine vy (a_fa (hf := T.fo_30_1)) ?_
      first | refine vy (a_fr (hf := T.fo_24_0)) ?_ | refine vy (a_fa (hf := T.fo_24_0)) ?_
      first | refine vy (k_ldr T.ts_3) ?_ | refine vy (k_lda T.ts_3) ?_
      first | refine vy (a_fr (hf := T.fo_30_1)) ?_ | refine vy (a_fa (hf := T.fo_30_1)) ?_
      first | refine vy (a_fr (hf := T.fo_24_2)) ?_ | refine vy (a_fa (hf := T.fo_24_2)) ?_
      first | refine vy (k_ldr T.ts_9) ?_ | refine vy (k_lda T.ts_9) ?_
      refine vy (a_build (hb := by first | exact rfl | rfl) (hr := by first | exact rfl | rfl)) ?_
      refine vy (a_lit (xs := [_]) (hT := T.ef_40) (hz := T.zs_24)) ?_
      refine vy a_assign ?_
      refine vl_nil ?_
      refine vc_ret ?_
      refine fin ?_
      simp only [fitsL, fits, C.asD, and_true]
      all_goals (first | (rw [if_neg hr0]; rfl) | (rw [if_pos hr1, comes_2 hkkind_2]; rfl) | (rw [if_pos hr1, comes_3 hkkind_3]; rfl) | (rw [if_pos hr1, comes_6 hkkind_6]; rfl) | (rw [if_pos hr1, comes_1 hkkind_1]; rfl) | (rw [if_pos hr1, comes_4 hkkind_4]; rfl) | (rw [if_pos hr1, comes_5 hkkind_5]; rfl) | (rw [if_pos hr1, comes_o hnkind_1 hnkind_2 hnkind_3 hnkind_4 hnkind_5 hnkind_6]; rfl))
     · -- no
      have hnkind_4 : ¬ x.kind = 4 := by simpa using hc5
      refine vc_then ?_
      refine vc_region ?_
      refine vy (a_bin (hr := by first | exact pr_eql | exact pr_eqs | exact pr_eqb Try.underlying3)) ?_
      refine vy a_assign ?_
      refine vl_nil ?_
      refine vif (fun hc6 => ?_) (fun hc6 => ?_)
      · -- yes
       have hkkind_5 : x.kind = 5 := by simpa using hc6
       refine vc_then ?_
       refine vc_region ?_
       first | refine vy (a_fr (hf := T.fo_30_1)) ?_ | refine vy (a_fa (hf := T.fo_30_1)) ?_
       first | refine vy (a_fr (hf := T.fo_24_0)) ?_ | refine vy (a_fa (hf := T.fo_24_0)) ?_
       first | refine vy (k_ldr T.ts_3) ?_ | refine vy (k_lda T.ts_3) ?_
       first | refine vy (a_fr (hf := T.fo_30_2)) ?_ | refine vy (a_fa (hf := T.fo_30_2)) ?_
       first | refine vy (k_ldr T.ts_9) ?_ | refine vy (k_lda T.ts_9) ?_
       first | refine vy (a_fr (hf := T.fo_30_1)) ?_ | refine vy (a_fa (hf := T.fo_30_1)) ?_
       first | refine vy (a_fr (hf := T.fo_24_2)) ?_ | refine vy (a_fa (hf := T.fo_24_2)) ?_
       first | refine vy (k_ldr T.ts_9) ?_ | refine vy (k_lda T.ts_9) ?_
       refine vy (a_build (hb := by first | exact rfl | rfl) (hr := by first | exact rfl | rfl)) ?_
       refine vy (a_lit (xs := [_]) (hT := T.ef_40) (hz := T.zs_24)) ?_
       refine vy a_assign ?_
       refine vl_nil ?_
       refine vc_ret ?_
       refine fin ?_
       simp only [fitsL, fits, C.asD, and_true]
       all_goals (first | (rw [if_neg hr0]; rfl) | (rw [if_pos hr1, comes_2 hkkind_2]; rfl) | (rw [if_pos hr1, comes_3 hkkind_3]; rfl) | (rw [if_pos hr1, comes_6 hkkind_6]; rfl) | (rw [if_pos hr1, comes_1 hkkind_1]; rfl) | (rw [if_pos hr1, comes_4 hkkind_4]; rfl) | (rw [if_pos hr1, comes_5 hkkind_5]; rfl) | (rw [if_pos hr1, comes_o hnkind_1 hnkind_2 hnkind_3 hnkind_4 hnkind_5 hnkind_6]; rfl))
      · -- no
       have hnkind_5 : ¬ x.kind = 5 := by simpa using hc6
       refine vc_then ?_
       refine vc_region ?_
       refine vy (a_bin (hr := by first | exact pr_eql | exact pr_eqs | exact pr_eqb Try.underlying3)) ?_
       refine vy a_assign ?_
       refine vl_nil ?_
       refine vif (fun hc7 => ?_) (fun hc7 => ?_)
       · -- yes
        have hkkind_6 : x.kind = 6 := by simpa using hc7
        refine vc_then ?_
        refine vc_drawn0 T.mixed ?_
        first | refine qy (a_fr (hf := T.fo_30_1)) ?_ | refine qy (a_fa (hf := T.fo_30_1)) ?_
        first | refine qy (k_ldr T.ts_24) ?_ | refine qy (k_lda T.ts_24) ?_
        first | refine qy (a_fr (hf := T.fo_30_2)) ?_ | refine qy (a_fa (hf := T.fo_30_2)) ?_
        first | refine qy (k_ldr T.ts_9) ?_ | refine qy (k_lda T.ts_9) ?_
        refine qy (a_call (hf := T.en_79) (hc := by exact beside_any _ _)) ?_
        first | refine qy (a_fr (hf := T.fo_30_1)) ?_ | refine qy (a_fa (hf := T.fo_30_1)) ?_
        first | refine qy (k_ldr T.ts_24) ?_ | refine qy (k_lda T.ts_24) ?_
        first | refine qy (a_fr (hf := T.fo_30_3)) ?_ | refine qy (a_fa (hf := T.fo_30_3)) ?_
        first | refine qy (k_ldr T.ts_9) ?_ | refine qy (k_lda T.ts_9) ?_
        refine qy (a_call (hf := T.en_79) (hc := by exact beside_any _ _)) ?_
        refine qy (a_lit (xs := [_, _]) (hT := T.ef_40) (hz := T.zs_24)) ?_
        refine qy a_assign ?_
        show _
        refine vc_ret ?_
        refine fin ?_
        simp only [fitsL, fits, C.asD, and_true]
        all_goals (first | (rw [if_neg hr0]; rfl) | (rw [if_pos hr1, comes_2 hkkind_2]; rfl) | (rw [if_pos hr1, comes_3 hkkind_3]; rfl) | (rw [if_pos hr1, comes_6 hkkind_6]; rfl) | (rw [if_pos hr1, comes_1 hkkind_1]; rfl) | (rw [if_pos hr1, comes_4 hkkind_4]; rfl) | (rw [if_pos hr1, comes_5 hkkind_5]; rfl) | (rw [if_pos hr1, comes_o hnkind_1 hnkind_2 hnkind_3 hnkind_4 hnkind_5 hnkind_6]; rfl))
       · -- no
        have hnkind_6 : ¬ x.kind = 6 := by simpa using hc7
        refine vc_skip ?_
        refine vc_then ?_
        refine vc_region ?_
        first | refine vy (a_fr (hf := T.fo_30_1)) ?_ | refine vy (a_fa (hf := T.fo_30_1)) ?_
        first | refine vy (k_ldr T.ts_24) ?_ | refine vy (k_lda T.ts_24) ?_
        refine vy (a_lit (xs := [_]) (hT := T.ef_40) (hz := T.zs_24)) ?_
        refine vy a_assign ?_
        refine vl_nil ?_
        refine vc_ret ?_
        refine fin ?_
        simp only [fitsL, fits, C.asD, and_true]
        all_goals (first | (rw [if_neg hr0]; rfl) | (rw [if_pos hr1, comes_2 hkkind_2]; rfl) | (rw [if_pos hr1, comes_3 hkkind_3]; rfl) | (rw [if_pos hr1, comes_6 hkkind_6]; rfl) | (rw [if_pos hr1, comes_1 hkkind_1]; rfl) | (rw [if_pos hr1, comes_4 hkkind_4]; rfl) | (rw [if_pos hr1, comes_5 hkkind_5]; rfl) | (rw [if_pos hr1, comes_o hnkind_1 hnkind_2 hnkind_3 hnkind_4 hnkind_5 hnkind_6]; rfl))

set_option maxHeartbeats 1000000 in
theorem refGoes_any (x : LensD) : Contract Try.prog 33 [lD x] [.d (.row ((goesL x).map rD))] := by
 refine fn_of (N := 30) [.tmp 2] Try.func33 ?_
 simp only [envUp, Nat.zero_add, Nat.reduceAdd]
 refine vc_then ?_
 refine vc_region ?_
 refine vs b_box ?_
 refine vy a_assign ?_
 refine vl_nil ?_
 refine vc_then ?_
 refine vc_then ?_
 refine vc_region ?_
 first | refine vy (a_fr (hf := T.fo_30_0)) ?_ | refine vy (a_fa (hf := T.fo_30_0)) ?_
 first | refine vy (k_ldr T.ts_3) ?_ | refine vy (k_lda T.ts_3) ?_
 refine vy (a_bin (hr := by first | exact pr_eql | exact pr_eqs | exact pr_eqb Try.underlying3)) ?_
 refine vl_nil ?_
 refine vif (fun hc1 => ?_) (fun hc1 => ?_)
 · -- yes
  have hkkind_2 : x.kind = 2 := by simpa using hc1
  refine vc_then ?_
  refine vc_region ?_
  refine vy a_assign ?_
  refine vl_nil ?_
  refine vc_ret ?_
  refine fin ?_
  simp only [fitsL, fits, C.asD, and_true]
  all_goals (first | (rw [goes_2 hkkind_2]; rfl) | (rw [goes_3 hkkind_3]; rfl) | (rw [goes_9 hkkind_9]; rfl) | (rw [goes_o hnkind_2 hnkind_3 hnkind_9]; rfl))
 · -- no
  have hnkind_2 : ¬ x.kind = 2 := by simpa using hc1
  refine vc_skip ?_
  refine vc_then ?_
  refine vc_then ?_
  refine vc_region ?_
  first | refine vy (a_fr (hf := T.fo_30_0)) ?_ | refine vy (a_fa (hf := T.fo_30_0)) ?_
  first | refine vy (k_ldr T.ts_3) ?_ | refine vy (k_lda T.ts_3) ?_
  refine vy (a_bin (hr := by first | exact pr_eql | exact pr_eqs | exact pr_eqb Try.underlying3)) ?_
  refine vl_nil ?_
  refine vif (fun hc2 => ?_) (fun hc2 => ?_)
  · -- yes
   have hkkind_3 : x.kind = 3 := by simpa using hc2
   refine vc_then ?_
   refine vc_region ?_
   first | refine vy (a_fr (hf := T.fo_30_5)) ?_ | refine vy (a_fa (hf := T.fo_30_5)) ?_
   first | refine vy (a_fr (hf := T.fo_27_0)) ?_ | refine vy (a_fa (hf := T.fo_27_0)) ?_
   first | refine vy (k_ldr T.ts_24) ?_ | refine vy (k_lda T.ts_24) ?_
   refine vy (a_lit (xs := [_]) (hT := T.ef_40) (hz := T.zs_24)) ?_
   refine vy a_assign ?_
   refine vl_nil ?_
   refine vc_ret ?_
   refine fin ?_
   simp only [fitsL, fits, C.asD, and_true]
   all_goals (first | (rw [goes_2 hkkind_2]; rfl) | (rw [goes_3 hkkind_3]; rfl) | (rw [goes_9 hkkind_9]; rfl) | (rw [goes_o hnkind_2 hnkind_3 hnkind_9]; rfl))
  · -- no
   have hnkind_3 : ¬ x.kind = 3 := by simpa using hc2
   refine vc_skip ?_
   refine vc_then ?_
   refine vc_then ?_
   refine vc_region ?_
   first | refine vy (a_fr (hf := T.fo_30_0)) ?_ | refine vy (a_fa (hf := T.fo_30_0)) ?_
   first | refine vy (k_ldr T.ts_3) ?_ | refine vy (k_lda T.ts_3) ?_
   refine vy (a_bin (hr := by first | exact pr_eql | exact pr_eqs | exact pr_eqb Try.underlying3)) ?_
   refine vl_nil ?_
   refine vif (fun hc3 => ?_) (fun hc3 => ?_)
   · -- yes
    have hkkind_9 : x.kind = 9 := by simpa using hc3
    refine vc_then ?_
    refine vc_drawn0 T.mixed ?_
    first | refine qy (a_fr (hf := T.fo_30_1)) ?_ | refine qy (a_fa (hf := T.fo_30_1)) ?_
    first | refine qy (k_ldr T.ts_24) ?_ | refine qy (k_lda T.ts_24) ?_
    first | refine qy (a_fr (hf := T.fo_30_2)) ?_ | refine qy (a_fa (hf := T.fo_30_2)) ?_
    first | refine qy (k_ldr T.ts_9) ?_ | refine qy (k_lda T.ts_9) ?_
    refine qy (a_call (hf := T.en_96) (hc := by exact named_any _ _)) ?_
    first | refine qy (a_fr (hf := T.fo_30_1)) ?_ | refine qy (a_fa (hf := T.fo_30_1)) ?_
    first | refine qy (k_ldr T.ts_24) ?_ | refine qy (k_lda T.ts_24) ?_
    first | refine qy (a_fr (hf := T.fo_30_3)) ?_ | refine qy (a_fa (hf := T.fo_30_3)) ?_
    first | refine qy (k_ldr T.ts_9) ?_ | refine qy (k_lda T.ts_9) ?_
    refine qy (a_call (hf := T.en_96) (hc := by exact named_any _ _)) ?_
    refine qy (a_lit (xs := [_, _]) (hT := T.ef_40) (hz := T.zs_24)) ?_
    refine qy a_assign ?_
    show _
    refine vc_ret ?_
    refine fin ?_
    simp only [fitsL, fits, C.asD, and_true]
    all_goals (first | (rw [goes_2 hkkind_2]; rfl) | (rw [goes_3 hkkind_3]; rfl) | (rw [goes_9 hkkind_9]; rfl) | (rw [goes_o hnkind_2 hnkind_3 hnkind_9]; rfl))
   · -- no
    have hnkind_9 : ¬ x.kind = 9 := by simpa using hc3
    refine vc_skip ?_
    refine vc_then ?_
    refine vc_region ?_
    first | refine vy (a_fr (hf := T.fo_30_1)) ?_ | refine vy (a_fa (hf := T.fo_30_1)) ?_
    first | refine vy (k_ldr T.ts_24) ?_ | refine vy (k_lda T.ts_24) ?_
    refine vy (a_lit (xs := [_]) (hT := T.ef_40) (hz := T.zs_24)) ?_
    refine vy a_assign ?_
    refine vl_nil ?_
    refine vc_ret ?_
    refine fin ?_
    simp only [fitsL, fits, C.asD, and_true]
    all_goals (first | (rw [goes_2 hkkind_2]; rfl) | (rw [goes_3 hkkind_3]; rfl) | (rw [goes_9 hkkind_9]; rfl) | (rw [goes_o hnkind_2 hnkind_3 hnkind_9]; rfl))

set_option maxHeartbeats 1000000 in
theorem refComes_any (x : LensD) : Contract Try.prog 34 [lD x] [.d (.row ((comesL x).map rD))] := by
 refine fn_of (N := 51) [.tmp 2] Try.func34 ?_
 simp only [envUp, Nat.zero_add, Nat.reduceAdd]
 refine vc_then ?_
 refine vc_region ?_
 refine vs b_box ?_
 refine vy a_assign ?_
 refine vl_nil ?_
 refine vc_then ?_
 refine vc_then ?_
 refine vc_region ?_
 first | refine vy (a_fr (hf := T.fo_30_0)) ?_ | refine vy (a_fa (hf := T.fo_30_0)) ?_
 first | refine vy (k_ldr T.ts_3) ?_ | refine vy (k_lda T.ts_3) ?_
 refine vy (a_bin (hr := by first | exact pr_eql | exact pr_eqs | exact pr_eqb Try.underlying3)) ?_
 refine vl_nil ?_
 refine vif (fun hc1 => ?_) (fun hc1 => ?_)
 · -- yes
  have hkkind_2 : x.kind = 2 := by simpa using hc1
  refine vc_then ?_
  refine vc_region ?_
  first | refine vy (a_fr (hf := T.fo_30_5)) ?_ | refine vy (a_fa (hf := T.fo_30_5)) ?_
  first | refine vy (a_fr (hf := T.fo_27_0)) ?_ | refine vy (a_fa (hf := T.fo_27_0)) ?_
  first | refine vy (k_ldr T.ts_24) ?_ | refine vy (k_lda T.ts_24) ?_
  refine vy (a_lit (xs := [_]) (hT := T.ef_40) (hz := T.zs_24)) ?_
  refine vy a_assign ?_
  refine vl_nil ?_
  refine vc_ret ?_
  refine fin ?_
  simp only [fitsL, fits, C.asD, and_true]
  all_goals (first | (rw [comes_2 hkkind_2]; rfl) | (rw [comes_3 hkkind_3]; rfl) | (rw [comes_6 hkkind_6]; rfl) | (rw [comes_1 hkkind_1]; rfl) | (rw [comes_4 hkkind_4]; rfl) | (rw [comes_5 hkkind_5]; rfl) | (rw [comes_o hnkind_1 hnkind_2 hnkind_3 hnkind_4 hnkind_5 hnkind_6]; rfl))
 · -- no
  have hnkind_2 : ¬ x.kind = 2 := by simpa using hc1
  refine vc_skip ?_
  refine vc_then ?_
  refine vc_then ?_
  refine vc_region ?_
  first | refine vy (a_fr (hf := T.fo_30_0)) ?_ | refine vy (a_fa (hf := T.fo_30_0)) ?_
  first | refine vy (k_ldr T.ts_3) ?_ | refine vy (k_lda T.ts_3) ?_
  refine vy (a_bin (hr := by first | exact pr_eql | exact pr_eqs | exact pr_eqb Try.underlying3)) ?_
  refine vl_nil ?_
  refine vif (fun hc2 => ?_) (fun hc2 => ?_)
  · -- yes
   have hkkind_3 : x.kind = 3 := by simpa using hc2
   refine vc_then ?_
   refine vc_region ?_
   refine vy a_assign ?_
   refine vl_nil ?_
   refine vc_ret ?_
   refine fin ?_
   simp only [fitsL, fits, C.asD, and_true]
   all_goals (first | (rw [comes_2 hkkind_2]; rfl) | (rw [comes_3 hkkind_3]; rfl) | (rw [comes_6 hkkind_6]; rfl) | (rw [comes_1 hkkind_1]; rfl) | (rw [comes_4 hkkind_4]; rfl) | (rw [comes_5 hkkind_5]; rfl) | (rw [comes_o hnkind_1 hnkind_2 hnkind_3 hnkind_4 hnkind_5 hnkind_6]; rfl))
  · -- no
   have hnkind_3 : ¬ x.kind = 3 := by simpa using hc2
   refine vc_skip ?_
   refine vc_then ?_
   refine vc_then ?_
   refine vc_region ?_
   first | refine vy (a_fr (hf := T.fo_30_0)) ?_ | refine vy (a_fa (hf := T.fo_30_0)) ?_
   first | refine vy (k_ldr T.ts_3) ?_ | refine vy (k_lda T.ts_3) ?_
   refine vy (a_bin (hr := by first | exact pr_eql | exact pr_eqs | exact pr_eqb Try.underlying3)) ?_
   refine vl_nil ?_
   refine vif (fun hc3 => ?_) (fun hc3 => ?_)
   · -- yes
    have hkkind_6 : x.kind = 6 := by simpa using hc3
    refine vc_then ?_
    refine vc_drawn0 T.mixed ?_
    first | refine qy (a_fr (hf := T.fo_30_1)) ?_ | refine qy (a_fa (hf := T.fo_30_1)) ?_
    first | refine qy (k_ldr T.ts_24) ?_ | refine qy (k_lda T.ts_24) ?_
    first | refine qy (a_fr (hf := T.fo_30_2)) ?_ | refine qy (a_fa (hf := T.fo_30_2)) ?_
    first | refine qy (k_ldr T.ts_9) ?_ | refine qy (k_lda T.ts_9) ?_
    refine qy (a_call (hf := T.en_96) (hc := by exact named_any _ _)) ?_
    first | refine qy (a_fr (hf := T.fo_30_1)) ?_ | refine qy (a_fa (hf := T.fo_30_1)) ?_
    first | refine qy (k_ldr T.ts_24) ?_ | refine qy (k_lda T.ts_24) ?_
    first | refine qy (a_fr (hf := T.fo_30_3)) ?_ | refine qy (a_fa (hf := T.fo_30_3)) ?_
    first | refine qy (k_ldr T.ts_9) ?_ | refine qy (k_lda T.ts_9) ?_
    refine qy (a_call (hf := T.en_96) (hc := by exact named_any _ _)) ?_
    refine qy (a_lit (xs := [_, _]) (hT := T.ef_40) (hz := T.zs_24)) ?_
    refine qy a_assign ?_
    show _
    refine vc_ret ?_
    refine fin ?_
    simp only [fitsL, fits, C.asD, and_true]
    all_goals (first | (rw [comes_2 hkkind_2]; rfl) | (rw [comes_3 hkkind_3]; rfl) | (rw [comes_6 hkkind_6]; rfl) | (rw [comes_1 hkkind_1]; rfl) | (rw [comes_4 hkkind_4]; rfl) | (rw [comes_5 hkkind_5]; rfl) | (rw [comes_o hnkind_1 hnkind_2 hnkind_3 hnkind_4 hnkind_5 hnkind_6]; rfl))
   · -- no
    have hnkind_6 : ¬ x.kind = 6 := by simpa using hc3
    refine vc_skip ?_
    refine vc_then ?_
    refine vc_then ?_
    refine vc_region ?_
    first | refine vy (a_fr (hf := T.fo_30_0)) ?_ | refine vy (a_fa (hf := T.fo_30_0)) ?_
    first | refine vy (k_ldr T.ts_3) ?_ | refine vy (k_lda T.ts_3) ?_
    refine vy (a_bin (hr := by first | exact pr_eql | exact pr_eqs | exact pr_eqb Try.underlying3)) ?_
    refine vl_nil ?_
    refine vif (fun hc4 => ?_) (fun hc4 => ?_)
    · -- yes
     have hkkind_1 : x.kind = 1 := by simpa using hc4
     refine vc_then ?_
     refine vc_region ?_
     first | refine vy (a_fr (hf := T.fo_30_1)) ?_ | refine vy (a_fa (hf := T.fo_30_1)) ?_
     first | refine vy (k_ldr T.ts_24) ?_ | refine vy (k_lda T.ts_24) ?_
     first | refine vy (a_fr (hf := T.fo_30_2)) ?_ | refine vy (a_fa (hf := T.fo_30_2)) ?_
     first | refine vy (k_ldr T.ts_9) ?_ | refine vy (k_lda T.ts_9) ?_
     refine vy (a_call (hf := T.en_96) (hc := by exact named_any _ _)) ?_
     refine vy (a_lit (xs := [_]) (hT := T.ef_40) (hz := T.zs_24)) ?_
     refine vy a_assign ?_
     refine vl_nil ?_
     refine vc_ret ?_
     refine fin ?_
     simp only [fitsL, fits, C.asD, and_true]
     all_goals (first | (rw [comes_2 hkkind_2]; rfl) | (rw [comes_3 hkkind_3]; rfl) | (rw [comes_6 hkkind_6]; rfl) | (rw [comes_1 hkkind_1]; rfl) | (rw [comes_4 hkkind_4]; rfl) | (rw [comes_5 hkkind_5]; rfl) | (rw [comes_o hnkind_1 hnkind_2 hnkind_3 hnkind_4 hnkind_5 hnkind_6]; rfl))
    · -- no
     have hnkind_1 : ¬ x.kind = 1 := by simpa using hc4
     refine vc_skip ?_
     refine vc_then ?_
     refine vc_region ?_
     first | refine vy (a_fr (hf := T.fo_30_1)) ?_ | refine vy (a_fa (hf := T.fo_30_1)) ?_
     first | refine vy (k_ldr T.ts_24) ?_ | refine vy (k_lda T.ts_24) ?_
     refine vs (b_alloc (hz := T.zo_24)) ?_
     refine vs (b_store T.ts_24) ?_
     refine vl_nil ?_
     refine vc_then ?_
     refine vc_then ?_
     refine vc_region ?_
     first | refine vy (a_fr (hf := T.fo_30_0)) ?_ | refine vy (a_fa (hf := T.fo_30_0)) ?_
     first | refine vy (k_ldr T.ts_3) ?_ | refine vy (k_lda T.ts_3) ?_
     refine vy (a_bin (hr := by first | exact pr_eql | exact pr_eqs | exact pr_eqb Try.underlying3)) ?_
     refine vl_nil ?_
     refine vif (fun hc5 => ?_) (fun hc5 => ?_)
     · -- yes
      have hkkind_4 : x.kind = 4 := by simpa using hc5
      refine vc_region ?_
      first | refine vy (a_fr (hf := T.fo_24_1)) ?_ | refine vy (a_fa (hf := T.fo_24_1)) ?_
      refine vs (b_store T.ts_9) ?_
      refine vl_nil ?_
      refine vc_then ?_
      refine vc_then ?_
      refine vc_region ?_
      first | refine vy (a_fr (hf := T.fo_30_0)) ?_ | refine vy (a_fa (hf := T.fo_30_0)) ?_
      first | refine vy (k_ldr T.ts_3) ?_ | refine vy (k_lda T.ts_3) ?_
      refine vy (a_bin (hr := by first | exact pr_eql | exact pr_eqs | exact pr_eqb Try.underlying3)) ?_
      refine vl_nil ?_
      refine vif (fun hc6 => ?_) (fun hc6 => ?_)
      · -- yes
       exfalso; have hdead := hc6; simp at hdead <;> omega
      · -- no
       have hnkind_5 : ¬ x.kind = 5 := by simpa using hc6
       refine vc_skip ?_
       refine vc_then ?_
       refine vc_region ?_
       first | refine vy (k_ldr T.ts_24) ?_ | refine vy (k_lda T.ts_24) ?_
       refine vy (a_lit (xs := [_]) (hT := T.ef_40) (hz := T.zs_24)) ?_
       refine vy a_assign ?_
       refine vl_nil ?_
       refine vc_ret ?_
       refine fin ?_
       simp only [fitsL, fits, C.asD, and_true]
       all_goals (first | (rw [comes_2 hkkind_2]; rfl) | (rw [comes_3 hkkind_3]; rfl) | (rw [comes_6 hkkind_6]; rfl) | (rw [comes_1 hkkind_1]; rfl) | (rw [comes_4 hkkind_4]; rfl) | (rw [comes_5 hkkind_5]; rfl) | (rw [comes_o hnkind_1 hnkind_2 hnkind_3 hnkind_4 hnkind_5 hnkind_6]; rfl))
     · -- no
      have hnkind_4 : ¬ x.kind = 4 := by simpa using hc5
      refine vc_skip ?_
      refine vc_then ?_
      refine vc_then ?_
      refine vc_region ?_
      first | refine vy (a_fr (hf := T.fo_30_0)) ?_ | refine vy (a_fa (hf := T.fo_30_0)) ?_
      first | refine vy (k_ldr T.ts_3) ?_ | refine vy (k_lda T.ts_3) ?_
      refine vy (a_bin (hr := by first | exact pr_eql | exact pr_eqs | exact pr_eqb Try.underlying3)) ?_
      refine vl_nil ?_
      refine vif (fun hc7 => ?_) (fun hc7 => ?_)
      · -- yes
       have hkkind_5 : x.kind = 5 := by simpa using hc7
       refine vc_region ?_
       first | refine vy (a_fr (hf := T.fo_30_2)) ?_ | refine vy (a_fa (hf := T.fo_30_2)) ?_
       first | refine vy (k_ldr T.ts_9) ?_ | refine vy (k_lda T.ts_9) ?_
       first | refine vy (a_fr (hf := T.fo_24_1)) ?_ | refine vy (a_fa (hf := T.fo_24_1)) ?_
       refine vs (b_store T.ts_9) ?_
       refine vl_nil ?_
       refine vc_then ?_
       refine vc_region ?_
       first | refine vy (k_ldr T.ts_24) ?_ | refine vy (k_lda T.ts_24) ?_
       refine vy (a_lit (xs := [_]) (hT := T.ef_40) (hz := T.zs_24)) ?_
       refine vy a_assign ?_
       refine vl_nil ?_
       refine vc_ret ?_
       refine fin ?_
       simp only [fitsL, fits, C.asD, and_true]
       all_goals (first | (rw [comes_2 hkkind_2]; rfl) | (rw [comes_3 hkkind_3]; rfl) | (rw [comes_6 hkkind_6]; rfl) | (rw [comes_1 hkkind_1]; rfl) | (rw [comes_4 hkkind_4]; rfl) | (rw [comes_5 hkkind_5]; rfl) | (rw [comes_o hnkind_1 hnkind_2 hnkind_3 hnkind_4 hnkind_5 hnkind_6]; rfl))
      · -- no
       have hnkind_5 : ¬ x.kind = 5 := by simpa using hc7
       refine vc_skip ?_
       refine vc_then ?_
       refine vc_region ?_
       first | refine vy (k_ldr T.ts_24) ?_ | refine vy (k_lda T.ts_24) ?_
       refine vy (a_lit (xs := [_]) (hT := T.ef_40) (hz := T.zs_24)) ?_
       refine vy a_assign ?_
       refine vl_nil ?_
       refine vc_ret ?_
       refine fin ?_
       simp only [fitsL, fits, C.asD, and_true]
       all_goals (first | (rw [comes_2 hkkind_2]; rfl) | (rw [comes_3 hkkind_3]; rfl) | (rw [comes_6 hkkind_6]; rfl) | (rw [comes_1 hkkind_1]; rfl) | (rw [comes_4 hkkind_4]; rfl) | (rw [comes_5 hkkind_5]; rfl) | (rw [comes_o hnkind_1 hnkind_2 hnkind_3 hnkind_4 hnkind_5 hnkind_6]; rfl))
end Go.Vm
