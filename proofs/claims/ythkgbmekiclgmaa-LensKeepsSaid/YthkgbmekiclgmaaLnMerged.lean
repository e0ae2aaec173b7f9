/- The walk of a Merge's counter. Printed by lens_apply.py. -/
import Derived.Test.YthkgbmekiclgmaaLnLens3
namespace Go.Vm
open Go.RowKit Go.Proofs
set_option linter.unusedVariables false
set_option linter.unusedSimpArgs false
set_option maxRecDepth 10000

theorem lensGoes_at (x : LensD) (hx0 : okX x) (hx : rightL x = true) : Contract Try.prog 20 [lD x] [.d (.row ((goesL x).map rD))] := by have h := lensGoes_any x hx0; rwa [if_pos hx] at h
theorem lensComes_at (x : LensD) (hx0 : okX x) (hx : rightL x = true) : Contract Try.prog 21 [lD x] [.d (.row ((comesL x).map rD))] := by have h := lensComes_any x hx0; rwa [if_pos hx] at h
theorem go9_0 {x : LensD} (h : x.kind = 9) : ((goesL x).map rD)[(0 : Int).toNat]? = some (rD (named x.at_ x.name)) := by rw [goes_9 h]; rfl
theorem go9_1 {x : LensD} (h : x.kind = 9) : ((goesL x).map rD)[(1 : Int).toNat]? = some (rD (named x.at_ x.other)) := by rw [goes_9 h]; rfl
theorem co6_0 {x : LensD} (h : x.kind = 6) : ((comesL x).map rD)[(0 : Int).toNat]? = some (rD (named x.at_ x.name)) := by rw [comes_6 h]; rfl
theorem co6_1 {x : LensD} (h : x.kind = 6) : ((comesL x).map rD)[(1 : Int).toNat]? = some (rD (named x.at_ x.other)) := by rw [comes_6 h]; rfl
theorem co_at {x : LensD} (h : x.kind = 7 ∨ x.kind = 8 ∨ x.kind = 9 ∨ x.kind = 10) : ((comesL x).map rD)[(0 : Int).toNat]? = some (rD x.at_) := by rw [comes_o (by omega) (by omega) (by omega) (by omega) (by omega) (by omega)]; rfl
theorem comes_ne {x : LensD} (h : ¬ x.kind = 3) : comesL x ≠ [] := by
  unfold comesL; simp only [h, if_false]; (repeat' split) <;> simp
theorem co_0 {x : LensD} (h : ¬ x.kind = 3) : ((comesL x).map rD)[(0 : Int).toNat]? = some (rD (comeL x)) := by
  have := comes_ne h
  unfold comeL
  cases hc : comesL x with
  | nil => exact absurd hc this
  | cons c cs => rfl
theorem mul_bound {a b : Int} (h : 0 ≤ a ∧ a ≤ 1048576) (h2 : 0 ≤ b ∧ b ≤ 1000) : -9223372036854775808 ≤ a * b ∧ a * b ≤ 9223372036854775807 := by
  have h3 := Int.mul_nonneg h.1 h2.1
  have h4 : a * b ≤ 1048576 * 1000 := Int.mul_le_mul h.2 h2.2 h2.1 (by omega)
  omega
theorem factor_ok {x : LensD} (hx : rightL x = true) (h : x.kind = 6 ∨ x.kind = 9) : 0 ≤ x.factor ∧ x.factor ≤ 1000 := by
  unfold rightL at hx
  rw [if_neg (by omega), if_neg (show ¬ x.kind = 8 by omega), if_pos h] at hx
  simp only [Bool.and_eq_true, decide_eq_true_eq] at hx
  omega
theorem find_in {l : List FieldD} {r : RefD} (h : (findS l r).2 = 0) : ¬ indexS l r < 0 := by
  intro h'; rw [find_neg h'] at h; simp at h
theorem find_worth {l : List FieldD} {r : RefD} (hl : rightS l = true) (h : (findS l r).2 = 0) : 0 ≤ (findS l r).1.worth ∧ (findS l r).1.worth ≤ 1048576 := by
  have h' := find_in h
  rw [find_pos h']
  exact rightF_worth (rightS_mem hl (fieldAt_spec h').1)
theorem find_ok {l : List FieldD} {r : RefD} (ho : okL l) : (findS l r).1.cases.length ≤ 1000000 := by
  by_cases h : indexS l r < 0
  · rw [find_neg h]; simp [noField]
  · rw [find_pos h]; exact ho.2 _ (fieldAt_spec h).1
theorem arr_2 {l : List FieldD} {x : LensD} (h : x.kind = 2) : arrS l x = ([x.field], true) := by unfold arrS; rw [if_pos h]
theorem arr_3 {l : List FieldD} {x : LensD} (h : x.kind = 3) : arrS l x = ([], decide ((findS l x.field.at_).2 = 0) && decide ((findS l x.field.at_).1 = x.field)) := by unfold arrS; rw [if_neg (by omega), if_pos h]
theorem arr_9 {l : List FieldD} {x : LensD} (h : x.kind = 9) : arrS l x = mergedS l x := by unfold arrS; rw [if_neg (by omega), if_neg (by omega), if_pos h]
theorem arr_no {l : List FieldD} {x : LensD} (h2 : ¬ x.kind = 2) (h3 : ¬ x.kind = 3) (h9 : ¬ x.kind = 9) (hf : ¬ (findS l x.at_).2 = 0) : arrS l x = ([], false) := by unfold arrS; rw [if_neg h2, if_neg h3, if_neg h9, if_pos hf]
theorem arr_6 {l : List FieldD} {x : LensD} (h : x.kind = 6) (hf : (findS l x.at_).2 = 0) : arrS l x = ([⟨named x.at_ x.name, 1, noB, [], (findS l x.at_).1.worth⟩, ⟨named x.at_ x.other, 1, noB, [], (findS l x.at_).1.worth * x.factor⟩], decide ((findS l x.at_).1.kind = 1)) := by
  unfold arrS; rw [if_neg (by omega), if_neg (by omega), if_neg (by omega), if_neg (by omega), if_pos h]
theorem arr_7 {l : List FieldD} {x : LensD} (h : x.kind = 7) (hf : (findS l x.at_).2 = 0) : arrS l x = ([⟨x.at_, 4, noB, [], 0⟩], decide ((findS l x.at_).1.kind = 2) && decide ((findS l x.at_).1.deft = x.other)) := by
  unfold arrS; rw [if_neg (by omega), if_neg (by omega), if_neg (by omega), if_neg (by omega), if_neg (by omega), if_pos h]
theorem arr_10 {l : List FieldD} {x : LensD} (h : x.kind = 10) (hf : (findS l x.at_).2 = 0) : arrS l x = ([⟨x.at_, 2, x.other, [], 0⟩], decide ((findS l x.at_).1.kind = 4)) := by
  unfold arrS; rw [if_neg (by omega), if_neg (by omega), if_neg (by omega), if_neg (by omega), if_neg (by omega), if_neg (by omega), if_pos h]
theorem arr_8 {l : List FieldD} {x : LensD} (h : x.kind = 8) (hf : (findS l x.at_).2 = 0) : arrS l x = ([⟨x.at_, 3, x.other, froms x.back, 0⟩], decide ((findS l x.at_).1 = ⟨x.at_, 3, x.name, froms x.forth, 0⟩)) := by
  unfold arrS; rw [if_neg (by omega), if_neg (by omega), if_neg (by omega), if_neg (by omega), if_neg (by omega), if_neg (by omega), if_neg (by omega), if_pos h]
theorem arr_o {l : List FieldD} {x : LensD} (h : ¬ x.kind = 2 ∧ ¬ x.kind = 3 ∧ ¬ x.kind = 9 ∧ ¬ x.kind = 6 ∧ ¬ x.kind = 7 ∧ ¬ x.kind = 10 ∧ ¬ x.kind = 8) (hf : (findS l x.at_).2 = 0) : arrS l x = ([⟨comeL x, (findS l x.at_).1.kind, (findS l x.at_).1.deft, (findS l x.at_).1.cases, (findS l x.at_).1.worth⟩], true) := by
  unfold arrS; rw [if_neg (by omega), if_neg (by omega), if_neg (by omega), if_neg (by omega), if_neg (by omega), if_neg (by omega), if_neg (by omega), if_neg (by omega)]
theorem pair_and {A : Prop} {a b : Bool} (h1 : A) (h : a = b) : A ∧ D.sc (.bool a) = D.sc (.bool b) := ⟨h1, scb h⟩

set_option maxHeartbeats 1000000 in
theorem merged_any (l : List FieldD) (x : LensD) (ho : okL l) (hx0 : okX x) (hl : rightS l = true) (hx : rightL x = true) (hk : x.kind = 9) : Contract Try.prog 127 [.row (l.map fD), lD x] [.d (.row ((mergedS l x).1.map fD)), .d (.sc (.bool ((mergedS l x).2)))] := by
 refine fn_of (N := 58) [.tmp 4, .tmp 5] Try.func127 ?_
 simp only [envUp, Nat.zero_add, Nat.reduceAdd]
 refine vc_then ?_
 refine vc_region ?_
 refine vs b_box ?_
 refine vy a_assign ?_
 refine vy a_assign ?_
 refine vl_nil ?_
 refine vc_then ?_
 refine vc_region ?_
 first | refine vy (k_ldr T.ts_30) ?_ | refine vy (k_lda T.ts_30) ?_
 refine vy (a_call (hf := T.en_20) (hc := by exact lensGoes_at _ hx0 hx)) ?_
 refine vy a_assign ?_
 refine vl_nil ?_
 refine vc_then ?_
 refine vc_region ?_
 refine vy a_move ?_
 refine vy a_move ?_
 refine vy (a_ix (hT := T.es_40) (h0 := by first | omega | decide) (hy := by first | exact go9_0 (by omega) | exact go9_1 (by omega) | exact co6_0 (by omega) | exact co6_1 (by omega) | exact co_0 (by omega))) ?_
 first | refine vy (k_ldr T.ts_24) ?_ | refine vy (k_lda T.ts_24) ?_
 refine vy (a_call (hf := T.en_24) (hc := by exact schemaFind_any _ _ ho)) ?_
 refine vy a_move ?_
 refine vy a_ext ?_
 refine vy a_ext ?_
 refine vs (b_alloc (hz := T.zo_27)) ?_
 refine vs (b_store T.ts_27) ?_
 refine vy a_assign ?_
 refine vl_nil ?_
 refine vc_then ?_
 refine vc_then ?_
 refine vc_region ?_
 refine vy a_move ?_
 refine vy (a_bin (hr := by first | exact pr_mul (wrap64 _ (mul_bound (find_worth hl hu0) (factor_ok hx (.inr hk)))) | exact pr_neq | exact pr_nes | exact pr_neb Try.underlying35)) ?_
 refine vy a_move ?_
 refine vb 22 (fun hg1 => ?_) (fun hg1 => ?_)
 · -- guard yes
  refine vn ?_
  refine vn ?_
  refine vn ?_
  refine vy a_pick ?_
  refine vl_nil ?_
  refine vif (fun hc2 => ?_) (fun hc2 => ?_)
  · -- yes
   refine vc_then ?_
   refine vc_region ?_
   refine vy a_assign ?_
   refine vy a_assign ?_
   refine vl_nil ?_
   refine vc_ret ?_
   refine fin ?_
   simp only [fitsL, fits, C.asD, and_true]
   all_goals (first | (unfold mergedS; simp_all; done) | (have hm : mergedS l x = ([⟨x.at_, 1, noB, [], (findS l (named x.at_ x.name)).1.worth⟩], true) := (by unfold mergedS; simp_all; done); rw [hm]; exact ⟨rfl, rfl⟩))
  · -- no
   first | (exfalso; have hdead := hc2; simp at hdead <;> omega) | (exfalso; simp_all; done)
 · -- guard no
  have hu0 : (findS l (named x.at_ x.name)).2 = 0 := by simpa using hg1
  first | refine vy (a_fr (hf := T.fo_27_1)) ?_ | refine vy (a_fa (hf := T.fo_27_1)) ?_
  first | refine vy (k_ldr T.ts_3) ?_ | refine vy (k_lda T.ts_3) ?_
  refine vy (a_bin (hr := by first | exact pr_mul (wrap64 _ (mul_bound (find_worth hl hu0) (factor_ok hx (.inr hk)))) | exact pr_neq | exact pr_nes | exact pr_neb Try.underlying3)) ?_
  refine vy a_pick ?_
  refine vl_nil ?_
  refine vif (fun hc3 => ?_) (fun hc3 => ?_)
  · -- yes
   refine vc_then ?_
   refine vc_region ?_
   refine vy a_assign ?_
   refine vy a_assign ?_
   refine vl_nil ?_
   refine vc_ret ?_
   refine fin ?_
   simp only [fitsL, fits, C.asD, and_true]
   all_goals (first | (unfold mergedS; simp_all; done) | (have hm : mergedS l x = ([⟨x.at_, 1, noB, [], (findS l (named x.at_ x.name)).1.worth⟩], true) := (by unfold mergedS; simp_all; done); rw [hm]; exact ⟨rfl, rfl⟩))
  · -- no
   refine vc_skip ?_
   refine vc_then ?_
   refine vc_region ?_
   refine vy a_move ?_
   refine vy a_move ?_
   refine vy (a_ix (hT := T.es_40) (h0 := by first | omega | decide) (hy := by first | exact go9_0 (by omega) | exact go9_1 (by omega) | exact co6_0 (by omega) | exact co6_1 (by omega) | exact co_0 (by omega))) ?_
   first | refine vy (k_ldr T.ts_24) ?_ | refine vy (k_lda T.ts_24) ?_
   refine vy (a_call (hf := T.en_24) (hc := by exact schemaFind_any _ _ ho)) ?_
   refine vy a_move ?_
   refine vy a_ext ?_
   refine vy a_ext ?_
   refine vs (b_alloc (hz := T.zo_27)) ?_
   refine vs (b_store T.ts_27) ?_
   refine vy a_assign ?_
   refine vl_nil ?_
   refine vc_then ?_
   refine vc_then ?_
   refine vc_region ?_
   refine vy a_move ?_
   refine vy (a_bin (hr := by first | exact pr_mul (wrap64 _ (mul_bound (find_worth hl hu0) (factor_ok hx (.inr hk)))) | exact pr_neq | exact pr_nes | exact pr_neb Try.underlying35)) ?_
   refine vy a_move ?_
   refine vb 37 (fun hg4 => ?_) (fun hg4 => ?_)
   · -- guard yes
    refine vn ?_
    refine vn ?_
    refine vn ?_
    refine vy a_pick ?_
    refine vy a_move ?_
    refine vn ?_
    refine vn ?_
    refine vn ?_
    refine vn ?_
    refine vn ?_
    refine vn ?_
    refine vn ?_
    refine vn ?_
    refine vy a_pick ?_
    refine vl_nil ?_
    refine vif (fun hc5 => ?_) (fun hc5 => ?_)
    · -- yes
     refine vc_then ?_
     refine vc_region ?_
     refine vy a_assign ?_
     refine vy a_assign ?_
     refine vl_nil ?_
     refine vc_ret ?_
     refine fin ?_
     simp only [fitsL, fits, C.asD, and_true]
     all_goals (first | (unfold mergedS; simp_all; done) | (have hm : mergedS l x = ([⟨x.at_, 1, noB, [], (findS l (named x.at_ x.name)).1.worth⟩], true) := (by unfold mergedS; simp_all; done); rw [hm]; exact ⟨rfl, rfl⟩))
    · -- no
     first | (exfalso; have hdead := hc5; simp at hdead <;> omega) | (exfalso; simp_all; done)
   · -- guard no
    first | refine vy (a_fr (hf := T.fo_27_1)) ?_ | refine vy (a_fa (hf := T.fo_27_1)) ?_
    first | refine vy (k_ldr T.ts_3) ?_ | refine vy (k_lda T.ts_3) ?_
    refine vy (a_bin (hr := by first | exact pr_mul (wrap64 _ (mul_bound (find_worth hl hu0) (factor_ok hx (.inr hk)))) | exact pr_neq | exact pr_nes | exact pr_neb Try.underlying3)) ?_
    refine vy a_pick ?_
    refine vy a_move ?_
    refine vb 42 (fun hg6 => ?_) (fun hg6 => ?_)
    · -- guard yes
     refine vn ?_
     refine vn ?_
     refine vn ?_
     refine vn ?_
     refine vn ?_
     refine vn ?_
     refine vn ?_
     refine vn ?_
     refine vy a_pick ?_
     refine vl_nil ?_
     refine vif (fun hc7 => ?_) (fun hc7 => ?_)
     · -- yes
      refine vc_then ?_
      refine vc_region ?_
      refine vy a_assign ?_
      refine vy a_assign ?_
      refine vl_nil ?_
      refine vc_ret ?_
      refine fin ?_
      simp only [fitsL, fits, C.asD, and_true]
      all_goals (first | (unfold mergedS; simp_all; done) | (have hm : mergedS l x = ([⟨x.at_, 1, noB, [], (findS l (named x.at_ x.name)).1.worth⟩], true) := (by unfold mergedS; simp_all; done); rw [hm]; exact ⟨rfl, rfl⟩))
     · -- no
      first | (exfalso; have hdead := hc7; simp at hdead <;> omega) | (exfalso; simp_all; done)
    · -- guard no
     first | refine vy (a_fr (hf := T.fo_27_4)) ?_ | refine vy (a_fa (hf := T.fo_27_4)) ?_
     first | refine vy (k_ldr T.ts_2) ?_ | refine vy (k_lda T.ts_2) ?_
     first | refine vy (a_fr (hf := T.fo_27_4)) ?_ | refine vy (a_fa (hf := T.fo_27_4)) ?_
     first | refine vy (k_ldr T.ts_2) ?_ | refine vy (k_lda T.ts_2) ?_
     first | refine vy (a_fr (hf := T.fo_30_4)) ?_ | refine vy (a_fa (hf := T.fo_30_4)) ?_
     first | refine vy (k_ldr T.ts_2) ?_ | refine vy (k_lda T.ts_2) ?_
     refine vy (a_bin (hr := by first | exact pr_mul (wrap64 _ (mul_bound (find_worth hl hu0) (factor_ok hx (.inr hk)))) | exact pr_mul (by first | exact wrap64 _ (by (first | omega | (simp only [List.length_map, List.length_append, List.length_nil, List.length_cons]; omega))) | rfl))) ?_
     refine vy (a_bin (hr := by first | exact pr_mul (wrap64 _ (mul_bound (find_worth hl hu0) (factor_ok hx (.inr hk)))) | exact pr_neq | exact pr_nes | exact pr_neb Try.underlying2)) ?_
     refine vy a_pick ?_
     refine vl_nil ?_
     refine vif (fun hc8 => ?_) (fun hc8 => ?_)
     · -- yes
      refine vc_then ?_
      refine vc_region ?_
      refine vy a_assign ?_
      refine vy a_assign ?_
      refine vl_nil ?_
      refine vc_ret ?_
      refine fin ?_
      simp only [fitsL, fits, C.asD, and_true]
      all_goals (first | (unfold mergedS; simp_all; done) | (have hm : mergedS l x = ([⟨x.at_, 1, noB, [], (findS l (named x.at_ x.name)).1.worth⟩], true) := (by unfold mergedS; simp_all; done); rw [hm]; exact ⟨rfl, rfl⟩))
     · -- no
      refine vc_skip ?_
      refine vc_then ?_
      refine vc_region ?_
      first | refine vy (a_fr (hf := T.fo_30_1)) ?_ | refine vy (a_fa (hf := T.fo_30_1)) ?_
      first | refine vy (k_ldr T.ts_24) ?_ | refine vy (k_lda T.ts_24) ?_
      first | refine vy (a_fr (hf := T.fo_27_4)) ?_ | refine vy (a_fa (hf := T.fo_27_4)) ?_
      first | refine vy (k_ldr T.ts_2) ?_ | refine vy (k_lda T.ts_2) ?_
      refine vy (a_build (hb := by first | exact rfl | rfl) (hr := by first | rfl)) ?_
      refine vy (a_lit (xs := [_]) (hT := T.ef_22) (hz := T.zs_27)) ?_
      refine vy a_assign ?_
      refine vy a_assign ?_
      refine vl_nil ?_
      refine vc_ret ?_
      refine fin ?_
      simp only [fitsL, fits, C.asD, and_true]
      all_goals (first | (unfold mergedS; simp_all; done) | (have hm : mergedS l x = ([⟨x.at_, 1, noB, [], (findS l (named x.at_ x.name)).1.worth⟩], true) := (by unfold mergedS; simp_all; done); rw [hm]; exact ⟨rfl, rfl⟩))
end Go.Vm
