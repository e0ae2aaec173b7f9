/- The walk of the reference's Apply. Printed by lens_apply.py. -/
import Derived.Test.YthkgbmekiclgmaaLnApply
namespace Go.Vm
open Go.RowKit Go.Proofs
set_option linter.unusedVariables false
set_option linter.unusedSimpArgs false
set_option maxRecDepth 10000

theorem right_kind {x : LensD} (h : rightL x = true) : 1 ≤ x.kind ∧ x.kind ≤ 10 := by
  by_cases h1 : x.kind = 2 ∨ x.kind = 3
  · omega
  by_cases h2 : x.kind = 8
  · omega
  by_cases h3 : x.kind = 6 ∨ x.kind = 9
  · omega
  by_cases h4 : x.kind = 7 ∨ x.kind = 10
  · omega
  by_cases h5 : x.kind = 1
  · omega
  by_cases h6 : x.kind = 4
  · omega
  by_cases h7 : x.kind = 5
  · omega
  unfold rightL at h
  rw [if_neg h1, if_neg h2, if_neg h3, if_neg h4, if_neg h5, if_neg h6, if_neg h7] at h
  simp at h
theorem refApp_5 {l : List FieldD} {x : LensD} (h : (rightS l && rightL x) = false) : applyS l x = ([], 5) := app_5 h
theorem refApp_gone {l : List FieldD} {x : LensD} {p : RefD} {k : Nat} (hl : rightS l = true) (hx : rightL x = true) (hp : (goesL x)[k]? = some p) (h : indexS l p < 0) : applyS l x = ([], 16) := by
  unfold applyS; rw [hl, hx, if_neg (by simp), if_pos (List.any_eq_true.2 ⟨p, List.mem_of_getElem? hp, by simpa using h⟩)]
theorem refApp_go {l : List FieldD} {x : LensD} (hl : rightS l = true) (hx : rightL x = true) (hall : ∀ g ∈ goesL x, ¬ indexS l g < 0) : applyS l x = if (refA (delAll l (goesL x)) (at0 (wasL l x)) (at1 (wasL l x)) x).2 = false then ([], 16) else ((refA (delAll l (goesL x)) (at0 (wasL l x)) (at1 (wasL l x)) x).1, 0) := by
  rw [← applyR_eq]; unfold applyR
  rw [hl, hx, if_neg (by simp), if_neg]
  intro h
  obtain ⟨g, hg, h⟩ := List.any_eq_true.1 h
  exact hall g hg (by simpa using h)
theorem app_16 {l m : List FieldD} {x : LensD} {R : List FieldD × Bool} (h : applyS l x = if R.2 = false then ([], 16) else (R.1, 0)) (h2 : R.2 = false) : D.row [] = D.row ((applyS l x).1.map fD) ∧ D.sc (.int .i64 16) = D.sc (.int .i64 (applyS l x).2) := by rw [h, if_pos h2]; exact ⟨rfl, rfl⟩
theorem app_0 {l m : List FieldD} {x : LensD} {R : List FieldD × Bool} (h : applyS l x = if R.2 = false then ([], 16) else (R.1, 0)) (h2 : R.2 = true) (h3 : R.1 = m) : D.row (m.map fD) = D.row ((applyS l x).1.map fD) ∧ D.sc (.int .i64 0) = D.sc (.int .i64 (applyS l x).2) := by rw [h, if_neg (by rw [h2]; simp), ← h3]; exact ⟨rfl, rfl⟩
theorem delAll_next {l : List FieldD} {rs : List RefD} {k : Nat} {p : RefD} (hp : rs[k]? = some p) : delAll l (rs.take (k + 1)) = delF (delAll l (rs.take k)) p := by
  unfold delAll; rw [take_next hp, List.foldl_append]; rfl
theorem without_step {l : List FieldD} {rs : List RefD} {k : Nat} {p : RefD} (hl : rightS l = true) (hnd : rs.Nodup) (hp : rs[k]? = some p) (h : ¬ indexS l p < 0) : (withoutS (delAll l (rs.take k)) p).1 = delAll l (rs.take (k + 1)) := by
  have hr := rightS_delAll (rs := rs.take k) hl
  have h2 : 0 ≤ indexS l p := by omega
  obtain ⟨f, hf, e⟩ := index_pos.1 h2
  have hnot : p ∉ rs.take k := by
    intro hm
    obtain ⟨j, hj, e2⟩ := List.getElem_of_mem hm
    have hjk : j < k := by rw [List.length_take] at hj; omega
    obtain ⟨hlt, e3⟩ := List.getElem?_eq_some_iff.1 hp
    rw [List.getElem_take] at e2
    have := (List.nodup_iff_pairwise_ne.1 hnd)
    rw [List.pairwise_iff_getElem] at this
    exact this j k (by omega) hlt hjk (by rw [e2, e3])
  have h3 : 0 ≤ indexS (delAll l (rs.take k)) p := index_pos.2 ⟨f, mem_delAll.2 ⟨hf, by rw [e]; exact hnot⟩, e⟩
  rw [without_ok hr (by omega), delAll_next hp]
theorem was_next {l : List FieldD} {rs : List RefD} {k : Nat} {p : RefD} (hp : rs[k]? = some p) : (rs.take (k + 1)).map (fieldAt l) = (rs.take k).map (fieldAt l) ++ [fieldAt l p] := by rw [take_next hp]; simp
theorem was_0 {l A : List FieldD} {x : LensD} (hA : A = wasL l x) (h2 : ¬ x.kind = 2) : (A.map fD)[(0 : Int).toNat]? = some (fD (at0 (wasL l x))) := by
  subst hA
  unfold wasL at0
  have : goesL x ≠ [] := by unfold goesL; simp only [h2, if_false]; (repeat' split) <;> simp
  cases h : goesL x with
  | nil => exact absurd h this
  | cons c cs => rfl
theorem was_1 {l A : List FieldD} {x : LensD} (hA : A = wasL l x) (h9 : x.kind = 9) : (A.map fD)[(1 : Int).toNat]? = some (fD (at1 (wasL l x))) := by subst hA; unfold wasL at1; rw [goes_9 h9]; rfl
theorem was_in {l : List FieldD} {x : LensD} (hall : ∀ g ∈ goesL x, ¬ indexS l g < 0) (h2 : ¬ x.kind = 2) : at0 (wasL l x) ∈ l := by
  unfold wasL at0
  have : goesL x ≠ [] := by unfold goesL; simp only [h2, if_false]; (repeat' split) <;> simp
  cases h : goesL x with
  | nil => exact absurd h this
  | cons c cs => exact (fieldAt_spec (hall c (by rw [h]; exact List.mem_cons_self ..))).1
theorem was_worth {l : List FieldD} {x : LensD} (hl : rightS l = true) (hall : ∀ g ∈ goesL x, ¬ indexS l g < 0) (h2 : ¬ x.kind = 2) : 0 ≤ (at0 (wasL l x)).worth ∧ (at0 (wasL l x)).worth ≤ 1048576 := rightF_worth (rightS_mem hl (was_in hall h2))
theorem was_ok {l : List FieldD} {x : LensD} (ho : okL l) (hall : ∀ g ∈ goesL x, ¬ indexS l g < 0) (h2 : ¬ x.kind = 2) : (at0 (wasL l x)).cases.length ≤ 1000000 := ho.2 _ (was_in hall h2)
theorem okL_put {l : List FieldD} {f : FieldD} {b : Bool} (ho : okL l) (hf : f.cases.length ≤ 1000000) : okL (putS l f b).1 := okL_with ho hf
theorem all_next {l : List FieldD} {rs : List RefD} {k : Nat} {p : RefD} (hp : rs[k]? = some p) (h : ∀ g ∈ rs.take k, ¬ indexS l g < 0) (hn : ¬ indexS l p < 0) : ∀ g ∈ rs.take (k + 1), ¬ indexS l g < 0 := by
  intro g hg
  rw [take_next hp, List.mem_append, List.mem_singleton] at hg
  rcases hg with hg | rfl
  · exact h g hg
  · exact hn

set_option maxHeartbeats 1000000 in
theorem moved_any (f : FieldD) (r : RefD) : Contract Try.prog 72 [fD f, rD r] [.d (fD ⟨r, f.kind, f.deft, f.cases, f.worth⟩)] := by
 refine fn_of (N := 8) [.cell 4 27] Try.func72 ?_
 simp only [envUp, Nat.zero_add, Nat.reduceAdd]
 refine vc_then ?_
 refine vc_region ?_
 refine vs b_box ?_
 refine vs b_box ?_
 refine vs (b_alloc (hz := T.zo_27)) ?_
 refine vl_nil ?_
 refine vc_then ?_
 refine vc_region ?_
 first | refine vy (k_ldr T.ts_24) ?_ | refine vy (k_lda T.ts_24) ?_
 first | refine vy (a_fr (hf := T.fo_27_0)) ?_ | refine vy (a_fa (hf := T.fo_27_0)) ?_
 refine vs (b_store T.ts_24) ?_
 refine vl_nil ?_
 refine vc_then ?_
 refine vc_region ?_
 first | refine vy (k_ldr T.ts_27) ?_ | refine vy (k_lda T.ts_27) ?_
 refine vs (b_store T.ts_27) ?_
 refine vl_nil ?_
 refine vc_ret ?_
 refine fin (hv := by simp only [vres, vres1, pd_all, List.length_cons, List.length_nil, Nat.reduceAdd, Nat.zero_add, Option.map_some, T.ts_27, strD, vget, vd, vc1, vconst, plainV, C.asD, conc, scs, Option.map_some, Option.map_none, ↓upd_get, ↓boxEnv_get, ↓spend_get, noEnv_get, ↓reduceIte, Nat.reduceEqDiff, reduceCtorEq, unref, demote, demoteC, slotV, ↓freshOf_get, fresh1_c, fresh1_at, fresh1_tup, fresh1_junk, ↓keep_get, keep_none]; rfl) ?_
 simp only [fitsL, fits, C.asD, and_true]
 all_goals (rfl)

set_option maxHeartbeats 1000000 in
theorem refPut_any (l : List FieldD) (f : FieldD) (b : Bool) (ho : okL l) (hf : f.cases.length ≤ 1000000) : Contract Try.prog 71 [.row (l.map fD), fD f, .sc (.bool b)] [.d (.row ((putS l f b).1.map fD)), .d (.sc (.bool ((putS l f b).2)))] := by
 refine fn_of (N := 22) [.tmp 6, .tmp 7] Try.func71 ?_
 simp only [envUp, Nat.zero_add, Nat.reduceAdd]
 refine vc_then ?_
 refine vc_region ?_
 refine vs b_box ?_
 refine vy a_assign ?_
 refine vy a_assign ?_
 refine vl_nil ?_
 refine vc_then ?_
 refine vc_region ?_
 refine vy a_move ?_
 first | refine vy (k_ldr T.ts_27) ?_ | refine vy (k_lda T.ts_27) ?_
 refine vy (a_call (hf := T.en_129) (hc := by exact refSchemaWith_any _ _ ho hf)) ?_
 refine vy a_move ?_
 refine vy a_ext ?_
 refine vy a_ext ?_
 refine vy a_assign ?_
 refine vy a_assign ?_
 refine vl_nil ?_
 refine vc_then ?_
 refine vc_region ?_
 refine vy a_move ?_
 refine vy a_move ?_
 refine vy a_move ?_
 refine vb 18 (fun hg1 => ?_) (fun hg1 => ?_)
 · -- guard yes
  refine vy a_move ?_
  refine vy (a_bin (hr := by first | exact pr_eql | exact pr_eqs | exact pr_eqb Try.underlying35)) ?_
  refine vy a_pick ?_
  refine vy a_assign ?_
  refine vy a_assign ?_
  refine vl_nil ?_
  refine vc_ret ?_
  refine fin ?_
  simp only [fitsL, fits, C.asD, and_true]
  all_goals (unfold putS; refine pair_and rfl ?_; simp_all)
 · -- guard no
  refine vn ?_
  refine vn ?_
  refine vy a_pick ?_
  refine vy a_assign ?_
  refine vy a_assign ?_
  refine vl_nil ?_
  refine vc_ret ?_
  refine fin ?_
  simp only [fitsL, fits, C.asD, and_true]
  all_goals (unfold putS; refine pair_and rfl ?_; simp_all)

set_option maxHeartbeats 1000000 in
theorem refApply_any (l : List FieldD) (x : LensD) (ho : okL l) (hx0 : okX x) : Contract Try.prog 16 [.row (l.map fD), lD x] [.d (.row ((applyS l x).1.map fD)), .d (.sc (.int .i64 (applyS l x).2))] := by
 refine fn_of (N := 283) [.tmp 4, .tmp 5] Try.func16 ?_
 simp only [envUp, Nat.zero_add, Nat.reduceAdd]
 have hl0 := ho.1
 have hgl := goes_len x
 refine vc_then ?_
 refine vc_region ?_
 refine vs b_box ?_
 refine vy a_assign ?_
 refine vy a_assign ?_
 refine vl_nil ?_
 refine vc_then ?_
 refine vc_then ?_
 refine vc_region ?_
 refine vy a_move ?_
 refine vy (a_call (hf := T.en_19) (hc := by exact refSchemaRight_any _ ho)) ?_
 refine vy a_not ?_
 refine vy a_move ?_
 refine vb 17 (fun hg1 => ?_) (fun hg1 => ?_)
 · -- guard yes
  refine vn ?_
  refine vn ?_
  refine vn ?_
  refine vy a_pick ?_
  refine vl_nil ?_
  refine vif (fun hc2 => ?_) (fun hc2 => ?_)
  · -- yes
   have h5 : (rightS l && rightL x) = false := by simp_all
   refine vc_then ?_
   refine vc_region ?_
   refine vy a_assign ?_
   refine vy a_assign ?_
   refine vl_nil ?_
   refine vc_ret ?_
   refine fin ?_
   simp only [fitsL, fits, C.asD, and_true]
   all_goals (first | (rw [app_5 h5]; exact ⟨rfl, rfl⟩) | (rw [refApp_gone hl hx hp hgone]; exact ⟨rfl, rfl⟩) | (exfalso; have hrk := right_kind hx; omega) | (clear hW hRe hok2 hall hpe hal hR hA hok hAl hk; generalize at0 (wasL l x) = w at *; generalize at1 (wasL l x) = v at *; generalize s.2.2.2 = R at *; first | (refine app_16 (m := []) hgo ?_; clear hgo; unfold refA; simp_all; done) | (refine app_0 hgo ?_ ?_ <;> (clear hgo; unfold refA; simp_all; done))))
  · -- no
   first | (exfalso; have hdead := hc2; simp at hdead <;> omega) | (exfalso; simp_all; done)
 · -- guard no
  first | refine vy (k_ldr T.ts_30) ?_ | refine vy (k_lda T.ts_30) ?_
  refine vy (a_call (hf := T.en_28) (hc := by exact refLensRight_any _ hx0)) ?_
  refine vy a_not ?_
  refine vy a_pick ?_
  refine vl_nil ?_
  refine vif (fun hc3 => ?_) (fun hc3 => ?_)
  · -- yes
   have h5 : (rightS l && rightL x) = false := by simp_all
   refine vc_then ?_
   refine vc_region ?_
   refine vy a_assign ?_
   refine vy a_assign ?_
   refine vl_nil ?_
   refine vc_ret ?_
   refine fin ?_
   simp only [fitsL, fits, C.asD, and_true]
   all_goals (first | (rw [app_5 h5]; exact ⟨rfl, rfl⟩) | (rw [refApp_gone hl hx hp hgone]; exact ⟨rfl, rfl⟩) | (exfalso; have hrk := right_kind hx; omega) | (clear hW hRe hok2 hall hpe hal hR hA hok hAl hk; generalize at0 (wasL l x) = w at *; generalize at1 (wasL l x) = v at *; generalize s.2.2.2 = R at *; first | (refine app_16 (m := []) hgo ?_; clear hgo; unfold refA; simp_all; done) | (refine app_0 hgo ?_ ?_ <;> (clear hgo; unfold refA; simp_all; done))))
  · -- no
   have hg1 : rightS l = true ∧ rightL x = true := by simp_all
   have hl := hg1.1
   have hx := hg1.2
   refine vc_skip ?_
   refine vc_then ?_
   refine vc_region ?_
   refine vy a_move ?_
   refine vy a_assign ?_
   refine vl_nil ?_
   refine vc_then ?_
   refine vc_region ?_
   refine vy (a_lit (xs := []) (hT := T.ef_22) (hz := T.zs_27) (hw := by intro x hx; cases hx)) ?_
   refine vy a_assign ?_
   refine vl_nil ?_
   refine vc_then ?_
   refine vc_region ?_
   first | refine vy (k_ldr T.ts_30) ?_ | refine vy (k_lda T.ts_30) ?_
   refine vy (a_call (hf := T.en_33) (hc := by exact refGoes_any _)) ?_
   refine vy a_assign ?_
   refine vl_nil ?_
   refine vc_then ?_
   refine vc_then ?_
   refine vc_region ?_
   refine vy a_assign ?_
   refine vl_nil ?_
   refine vc_block ?_
   refine vk [0, 3, 8] (fun (s : Nat × Nat × List FieldD × List FieldD) e => upd (upd (upd (e) (some 9) (.c (.d (.sc (.int .i64 ((s.1 : Nat) : Int)))))) (some 7) (.c (.own s.2.1 27 (s.2.2.1.map fD)))) (some 6) (.c (.d (.row (s.2.2.2.map fD))))) (fun s => s.1 ≤ (goesL x).length ∧ okL s.2.2.2 ∧ s.2.2.1 = ((goesL x).take s.1).map (fieldAt l) ∧ s.2.2.2 = delAll l ((goesL x).take s.1) ∧ ∀ g ∈ (goesL x).take s.1, ¬ indexS l g < 0) (fun s => (goesL x).length - s.1) (0, 23, [], l) ⟨Nat.zero_le _, ho, rfl, rfl, fun g hg => by simp at hg⟩ ?_ ?_
   · --
    repeat (first | exact sub_keep_nil | refine su ?_ | refine sk ?_)
   · --
    rintro s ⟨hk, hok, hA, hR, hal⟩
    have hAl : s.2.2.1.length ≤ 2 := by rw [hA, List.length_map, List.length_take]; omega
    refine vc_then ?_
    refine vc_then ?_
    refine vc_region ?_
    refine vy a_move ?_
    refine vy a_move ?_
    refine vy (a_len (hT := T.es_40)) ?_
    refine vy (a_bin (hr := by first | exact pr_add1 (by omega) | exact pr_mul (wrap64 _ (mul_bound (was_worth hl hall (by omega)) (factor_ok hx (by omega)))) | exact pr_lss | exact pr_lts)) ?_
    refine vl_nil ?_
    refine vif (fun hc4 => ?_) (fun hc4 => ?_)
    · -- yes
     obtain ⟨p, hp⟩ := elem_at hc4
     have hkl := lt_len hp
     refine vc_skip ?_
     refine vc_then ?_
     refine vc_block ?_
     refine vc_then ?_
     refine vc_region ?_
     refine vy a_move ?_
     refine vy a_move ?_
     refine vy a_move ?_
     refine vy (a_ix (hT := T.es_40) (h0 := by first | omega | decide) (hy := by first | exact map_at hp | exact fieldAt_ix hn | exact was_0 hW (by omega) | exact was_1 hW (by omega) | exact co6_0 (by omega) | exact co6_1 (by omega) | exact co_at (by omega) | exact co_0 (by omega))) ?_
     first | refine vy (k_ldr T.ts_24) ?_ | refine vy (k_lda T.ts_24) ?_
     refine vy (a_call (hf := T.en_22) (hc := by exact refSchemaAt_any _ _ ho.1)) ?_
     refine vy a_assign ?_
     refine vl_nil ?_
     refine vc_then ?_
     refine vc_then ?_
     refine vc_region ?_
     refine vy a_move ?_
     refine vy (a_bin (hr := by first | exact pr_add1 (by omega) | exact pr_mul (wrap64 _ (mul_bound (was_worth hl hall (by omega)) (factor_ok hx (by omega)))) | exact pr_lss | exact pr_lts)) ?_
     refine vl_nil ?_
     refine vif (fun hc5 => ?_) (fun hc5 => ?_)
     · -- yes
      have hgone : indexS l p < 0 := by simpa using hc5
      refine vc_then ?_
      refine vc_region ?_
      refine vy a_assign ?_
      refine vy a_assign ?_
      refine vl_nil ?_
      refine vc_ret ?_
      refine fin ?_
      simp only [fitsL, fits, C.asD, and_true]
      all_goals (first | (rw [app_5 h5]; exact ⟨rfl, rfl⟩) | (rw [refApp_gone hl hx hp hgone]; exact ⟨rfl, rfl⟩) | (exfalso; have hrk := right_kind hx; omega) | (clear hW hRe hok2 hall hpe hal hR hA hok hAl hk; generalize at0 (wasL l x) = w at *; generalize at1 (wasL l x) = v at *; generalize s.2.2.2 = R at *; first | (refine app_16 (m := []) hgo ?_; clear hgo; unfold refA; simp_all; done) | (refine app_0 hgo ?_ ?_ <;> (clear hgo; unfold refA; simp_all; done))))
     · -- no
      have hn : ¬ indexS l p < 0 := by simpa using hc5
      have hib := index_bound (l := l) (r := p)
      have hi0 : 0 ≤ indexS l p := by omega
      refine vc_skip ?_
      refine vc_then ?_
      refine vc_region ?_
      refine vy a_move ?_
      refine vy a_move ?_
      refine vy a_move ?_
      refine vy (a_ix (hT := T.es_22) (h0 := by first | omega | decide) (hy := by first | exact map_at hp | exact fieldAt_ix hn | exact was_0 hW (by omega) | exact was_1 hW (by omega) | exact co6_0 (by omega) | exact co6_1 (by omega) | exact co_at (by omega) | exact co_0 (by omega))) ?_
      first | refine vy (k_ldr T.ts_27) ?_ | refine vy (k_lda T.ts_27) ?_
      refine vy (a_lit (xs := [_]) (hT := T.ef_22) (hz := T.zs_27)) ?_
      first | refine vs (b_app (hT := T.ef_22) (hw := by first | exact strs_wide | exact pairs_wide | exact rs_wide | exact fD_wide | (simp [D.cells])) (h63 := by unfold maxLen; (first | omega | (simp only [List.length_map, List.length_append, List.length_nil, List.length_cons]; omega))) (hby := by first | omega | (simp only [List.length_map, List.length_append, List.length_nil, List.length_cons]; omega)) (hzs := by first | exact snoc_map (g := fD) | exact one_map (g := fD) | rfl)) ?_ | refine vy (a_appn (hT := T.ef_22) (hw := by first | exact strs_wide | exact pairs_wide | exact rs_wide | exact fD_wide | (simp [D.cells])) (h63 := by unfold maxLen; (first | omega | (simp only [List.length_map, List.length_append, List.length_nil, List.length_cons]; omega))) (hby := by first | omega | (simp only [List.length_map, List.length_append, List.length_nil, List.length_cons]; omega))) ?_
      refine vy a_assign ?_
      refine vl_nil ?_
      refine vc_region ?_
      refine vy a_move ?_
      refine vy a_move ?_
      refine vy a_move ?_
      refine vy (a_ix (hT := T.es_40) (h0 := by first | omega | decide) (hy := by first | exact map_at hp | exact fieldAt_ix hn | exact was_0 hW (by omega) | exact was_1 hW (by omega) | exact co6_0 (by omega) | exact co6_1 (by omega) | exact co_at (by omega) | exact co_0 (by omega))) ?_
      first | refine vy (k_ldr T.ts_24) ?_ | refine vy (k_lda T.ts_24) ?_
      refine vy (a_call (hf := T.en_70) (hc := by exact refSchemaWithout_any _ _ hok)) ?_
      refine vy a_move ?_
      refine vy a_ext ?_
      refine vy a_ext ?_
      refine vy a_assign ?_
      refine vl_nil ?_
      refine vc_region ?_
      refine vy a_move ?_
      refine vy (a_bin (hr := by first | exact pr_add1 (by omega) | exact pr_mul (wrap64 _ (mul_bound (was_worth hl hall (by omega)) (factor_ok hx (by omega)))) | exact pr_add (by first | exact wrap64 _ (by (first | omega | (simp only [List.length_map, List.length_append, List.length_nil, List.length_cons]; omega))) | rfl) | exact pr_cat (by (first | omega | (simp only [List.length_map, List.length_append, List.length_nil, List.length_cons]; omega))))) ?_
      refine vy a_assign ?_
      refine vl_nil ?_
      refine ⟨_, ?_, (s.1 + 1, 46, s.2.2.1 ++ [fieldAt l p], (withoutS s.2.2.2 p).1), ⟨lt_len hp, okL_without hok, by rw [hA]; exact (was_next hp).symm, by rw [hR]; exact without_step hl (goes_nodup hx) hp hn, all_next hp hal hn⟩, rfl, ?_⟩
      · --
       have := lt_len hp; (try dsimp only); omega
      · --
       repeat (first | exact sub_keep_nil | refine su ?_ | refine sk ?_)
    · -- no
     have hpe := past_end hc4
     have hall : ∀ g ∈ goesL x, ¬ indexS l g < 0 := by rw [List.take_of_length_le hpe] at hal; exact hal
     have hW : s.2.2.1 = wasL l x := by rw [hA, List.take_of_length_le hpe]; rfl
     have hok2 : okL s.2.2.2 := hok
     have hRe : s.2.2.2 = delAll l (goesL x) := by rw [hR, List.take_of_length_le hpe]
     have hgo := refApp_go hl hx hall
     rw [← hRe] at hgo
     refine vc_exit ?_
     refine vc_then ?_
     refine vc_region ?_
     refine vy a_assign ?_
     refine vl_nil ?_
     refine vc_then ?_
     refine vc_region ?_
     first | refine vy (k_ldr T.ts_30) ?_ | refine vy (k_lda T.ts_30) ?_
     refine vy (a_call (hf := T.en_34) (hc := by exact refComes_any _)) ?_
     refine vy a_assign ?_
     refine vl_nil ?_
     refine vc_then ?_
     refine vc_then ?_
     refine vc_region ?_
     first | refine vy (a_fr (hf := T.fo_30_0)) ?_ | refine vy (a_fa (hf := T.fo_30_0)) ?_
     first | refine vy (k_ldr T.ts_3) ?_ | refine vy (k_lda T.ts_3) ?_
     refine vy (a_bin (hr := by first | exact pr_add1 (by omega) | exact pr_mul (wrap64 _ (mul_bound (was_worth hl hall (by omega)) (factor_ok hx (by omega)))) | exact pr_eql | exact pr_eqs | exact pr_eqb Try.underlying3)) ?_
     refine vy a_move ?_
     refine vb 61 (fun hg6 => ?_) (fun hg6 => ?_)
     · -- guard yes
      have hkkind_1 : x.kind = 1 := by simpa using hg6
      refine vn ?_
      refine vn ?_
      refine vn ?_
      refine vy a_pick ?_
      refine vy a_move ?_
      refine vn ?_
      refine vn ?_
      refine vn ?_
      refine vy a_pick ?_
      refine vl_nil ?_
      refine vif (fun hc7 => ?_) (fun hc7 => ?_)
      · -- yes
       refine vc_drawn0 T.mixed ?_
       refine qy a_move ?_
       refine qy a_move ?_
       refine qy (a_ix (hT := T.es_22) (h0 := by first | omega | decide) (hy := by first | exact map_at hp | exact fieldAt_ix hn | exact was_0 hW (by omega) | exact was_1 hW (by omega) | exact co6_0 (by omega) | exact co6_1 (by omega) | exact co_at (by omega) | exact co_0 (by omega))) ?_
       first | refine qy (k_ldr T.ts_27) ?_ | refine qy (k_lda T.ts_27) ?_
       refine qy a_move ?_
       refine qy (a_ix (hT := T.es_40) (h0 := by first | omega | decide) (hy := by first | exact map_at hp | exact fieldAt_ix hn | exact was_0 hW (by omega) | exact was_1 hW (by omega) | exact co6_0 (by omega) | exact co6_1 (by omega) | exact co_at (by omega) | exact co_0 (by omega))) ?_
       first | refine qy (k_ldr T.ts_24) ?_ | refine qy (k_lda T.ts_24) ?_
       refine qy (a_call (hf := T.en_72) (hc := by exact moved_any _ _)) ?_
       refine qy a_move ?_
       refine qy (a_call (hf := T.en_71) (hc := by first | exact refPut_any _ _ _ hok2 (was_ok ho hall (by omega)) | exact refPut_any _ x.field _ hok2 hx0.1 | exact refPut_any _ ⟨named x.at_ x.name, 1, noB, [], (at0 (wasL l x)).worth⟩ _ hok2 (Nat.zero_le _) | exact refPut_any _ ⟨named x.at_ x.other, 1, noB, [], (at0 (wasL l x)).worth * x.factor⟩ _ (okL_put hok2 (Nat.zero_le _)) (Nat.zero_le _) | exact refPut_any _ ⟨x.at_, 4, noB, [], 0⟩ _ hok2 (Nat.zero_le _) | exact refPut_any _ ⟨x.at_, 1, noB, [], (at0 (wasL l x)).worth⟩ _ hok2 (Nat.zero_le _) | exact refPut_any _ ⟨x.at_, 2, x.other, [], 0⟩ _ hok2 (Nat.zero_le _) | exact refPut_any _ ⟨x.at_, 3, x.other, froms x.back, 0⟩ _ hok2 (froms_ok hx0.2.2))) ?_
       refine qy a_move ?_
       refine qy a_ext ?_
       refine qy a_ext ?_
       refine qy a_assign ?_
       refine qy a_assign ?_
       show _
       refine vc_then ?_
       refine vc_then ?_
       refine vc_region ?_
       first | refine vy (a_fr (hf := T.fo_30_0)) ?_ | refine vy (a_fa (hf := T.fo_30_0)) ?_
       first | refine vy (k_ldr T.ts_3) ?_ | refine vy (k_lda T.ts_3) ?_
       refine vy (a_bin (hr := by first | exact pr_add1 (by omega) | exact pr_mul (wrap64 _ (mul_bound (was_worth hl hall (by omega)) (factor_ok hx (by omega)))) | exact pr_eql | exact pr_eqs | exact pr_eqb Try.underlying3)) ?_
       refine vl_nil ?_
       refine vif (fun hc8 => ?_) (fun hc8 => ?_)
       · -- yes
        exfalso; have hdead := hc8; simp at hdead <;> omega
       · -- no
        have hnkind_2 : ¬ x.kind = 2 := by simpa using hc8
        refine vc_skip ?_
        refine vc_then ?_
        refine vc_then ?_
        refine vc_region ?_
        first | refine vy (a_fr (hf := T.fo_30_0)) ?_ | refine vy (a_fa (hf := T.fo_30_0)) ?_
        first | refine vy (k_ldr T.ts_3) ?_ | refine vy (k_lda T.ts_3) ?_
        refine vy (a_bin (hr := by first | exact pr_add1 (by omega) | exact pr_mul (wrap64 _ (mul_bound (was_worth hl hall (by omega)) (factor_ok hx (by omega)))) | exact pr_eql | exact pr_eqs | exact pr_eqb Try.underlying3)) ?_
        refine vl_nil ?_
        refine vif (fun hc9 => ?_) (fun hc9 => ?_)
        · -- yes
         exfalso; have hdead := hc9; simp at hdead <;> omega
        · -- no
         have hnkind_3 : ¬ x.kind = 3 := by simpa using hc9
         refine vc_skip ?_
         refine vc_then ?_
         refine vc_then ?_
         refine vc_region ?_
         first | refine vy (a_fr (hf := T.fo_30_0)) ?_ | refine vy (a_fa (hf := T.fo_30_0)) ?_
         first | refine vy (k_ldr T.ts_3) ?_ | refine vy (k_lda T.ts_3) ?_
         refine vy (a_bin (hr := by first | exact pr_add1 (by omega) | exact pr_mul (wrap64 _ (mul_bound (was_worth hl hall (by omega)) (factor_ok hx (by omega)))) | exact pr_eql | exact pr_eqs | exact pr_eqb Try.underlying3)) ?_
         refine vl_nil ?_
         refine vif (fun hc10 => ?_) (fun hc10 => ?_)
         · -- yes
          exfalso; have hdead := hc10; simp at hdead <;> omega
         · -- no
          have hnkind_6 : ¬ x.kind = 6 := by simpa using hc10
          refine vc_skip ?_
          refine vc_then ?_
          refine vc_then ?_
          refine vc_region ?_
          first | refine vy (a_fr (hf := T.fo_30_0)) ?_ | refine vy (a_fa (hf := T.fo_30_0)) ?_
          first | refine vy (k_ldr T.ts_3) ?_ | refine vy (k_lda T.ts_3) ?_
          refine vy (a_bin (hr := by first | exact pr_add1 (by omega) | exact pr_mul (wrap64 _ (mul_bound (was_worth hl hall (by omega)) (factor_ok hx (by omega)))) | exact pr_eql | exact pr_eqs | exact pr_eqb Try.underlying3)) ?_
          refine vl_nil ?_
          refine vif (fun hc11 => ?_) (fun hc11 => ?_)
          · -- yes
           exfalso; have hdead := hc11; simp at hdead <;> omega
          · -- no
           have hnkind_7 : ¬ x.kind = 7 := by simpa using hc11
           refine vc_skip ?_
           refine vc_then ?_
           refine vc_then ?_
           refine vc_region ?_
           first | refine vy (a_fr (hf := T.fo_30_0)) ?_ | refine vy (a_fa (hf := T.fo_30_0)) ?_
           first | refine vy (k_ldr T.ts_3) ?_ | refine vy (k_lda T.ts_3) ?_
           refine vy (a_bin (hr := by first | exact pr_add1 (by omega) | exact pr_mul (wrap64 _ (mul_bound (was_worth hl hall (by omega)) (factor_ok hx (by omega)))) | exact pr_eql | exact pr_eqs | exact pr_eqb Try.underlying3)) ?_
           refine vl_nil ?_
           refine vif (fun hc12 => ?_) (fun hc12 => ?_)
           · -- yes
            exfalso; have hdead := hc12; simp at hdead <;> omega
           · -- no
            have hnkind_8 : ¬ x.kind = 8 := by simpa using hc12
            refine vc_skip ?_
            refine vc_then ?_
            refine vc_then ?_
            refine vc_region ?_
            first | refine vy (a_fr (hf := T.fo_30_0)) ?_ | refine vy (a_fa (hf := T.fo_30_0)) ?_
            first | refine vy (k_ldr T.ts_3) ?_ | refine vy (k_lda T.ts_3) ?_
            refine vy (a_bin (hr := by first | exact pr_add1 (by omega) | exact pr_mul (wrap64 _ (mul_bound (was_worth hl hall (by omega)) (factor_ok hx (by omega)))) | exact pr_eql | exact pr_eqs | exact pr_eqb Try.underlying3)) ?_
            refine vl_nil ?_
            refine vif (fun hc13 => ?_) (fun hc13 => ?_)
            · -- yes
             exfalso; have hdead := hc13; simp at hdead <;> omega
            · -- no
             have hnkind_9 : ¬ x.kind = 9 := by simpa using hc13
             refine vc_skip ?_
             refine vc_then ?_
             refine vc_then ?_
             refine vc_region ?_
             first | refine vy (a_fr (hf := T.fo_30_0)) ?_ | refine vy (a_fa (hf := T.fo_30_0)) ?_
             first | refine vy (k_ldr T.ts_3) ?_ | refine vy (k_lda T.ts_3) ?_
             refine vy (a_bin (hr := by first | exact pr_add1 (by omega) | exact pr_mul (wrap64 _ (mul_bound (was_worth hl hall (by omega)) (factor_ok hx (by omega)))) | exact pr_eql | exact pr_eqs | exact pr_eqb Try.underlying3)) ?_
             refine vl_nil ?_
             refine vif (fun hc14 => ?_) (fun hc14 => ?_)
             · -- yes
              exfalso; have hdead := hc14; simp at hdead <;> omega
             · -- no
              have hnkind_10 : ¬ x.kind = 10 := by simpa using hc14
              refine vc_skip ?_
              refine vc_then ?_
              refine vc_then ?_
              refine vc_region ?_
              refine vy a_move ?_
              refine vy a_not ?_
              refine vl_nil ?_
              refine vif (fun hc15 => ?_) (fun hc15 => ?_)
              · -- yes
               have hbad : _ = true := hc15
               refine vc_then ?_
               refine vc_region ?_
               refine vy a_assign ?_
               refine vy a_assign ?_
               refine vl_nil ?_
               refine vc_ret ?_
               refine fin ?_
               simp only [fitsL, fits, C.asD, and_true]
               all_goals (first | (rw [app_5 h5]; exact ⟨rfl, rfl⟩) | (rw [refApp_gone hl hx hp hgone]; exact ⟨rfl, rfl⟩) | (exfalso; have hrk := right_kind hx; omega) | (clear hW hRe hok2 hall hpe hal hR hA hok hAl hk; generalize at0 (wasL l x) = w at *; generalize at1 (wasL l x) = v at *; generalize s.2.2.2 = R at *; first | (refine app_16 (m := []) hgo ?_; clear hgo; unfold refA; simp_all; done) | (refine app_0 hgo ?_ ?_ <;> (clear hgo; unfold refA; simp_all; done))))
              · -- no
               have hgood : _ = false := hc15
               refine vc_skip ?_
               refine vc_then ?_
               refine vc_region ?_
               refine vy a_move ?_
               refine vy a_assign ?_
               refine vy a_assign ?_
               refine vl_nil ?_
               refine vc_ret ?_
               refine fin ?_
               simp only [fitsL, fits, C.asD, and_true]
               all_goals (first | (rw [app_5 h5]; exact ⟨rfl, rfl⟩) | (rw [refApp_gone hl hx hp hgone]; exact ⟨rfl, rfl⟩) | (exfalso; have hrk := right_kind hx; omega) | (clear hW hRe hok2 hall hpe hal hR hA hok hAl hk; generalize at0 (wasL l x) = w at *; generalize at1 (wasL l x) = v at *; generalize s.2.2.2 = R at *; first | (refine app_16 (m := []) hgo ?_; clear hgo; unfold refA; simp_all; done) | (refine app_0 hgo ?_ ?_ <;> (clear hgo; unfold refA; simp_all; done))))
      · -- no
       first | (exfalso; have hdead := hc7; simp at hdead <;> omega) | (exfalso; simp_all; done)
     · -- guard no
      have hnkind_1 : ¬ x.kind = 1 := by simpa using hg6
      first | refine vy (a_fr (hf := T.fo_30_0)) ?_ | refine vy (a_fa (hf := T.fo_30_0)) ?_
      first | refine vy (k_ldr T.ts_3) ?_ | refine vy (k_lda T.ts_3) ?_
      refine vy (a_bin (hr := by first | exact pr_add1 (by omega) | exact pr_mul (wrap64 _ (mul_bound (was_worth hl hall (by omega)) (factor_ok hx (by omega)))) | exact pr_eql | exact pr_eqs | exact pr_eqb Try.underlying3)) ?_
      refine vy a_pick ?_
      refine vy a_move ?_
      refine vb 66 (fun hg16 => ?_) (fun hg16 => ?_)
      · -- guard yes
       have hkkind_4 : x.kind = 4 := by simpa using hg16
       refine vn ?_
       refine vn ?_
       refine vn ?_
       refine vy a_pick ?_
       refine vl_nil ?_
       refine vif (fun hc17 => ?_) (fun hc17 => ?_)
       · -- yes
        refine vc_drawn0 T.mixed ?_
        refine qy a_move ?_
        refine qy a_move ?_
        refine qy (a_ix (hT := T.es_22) (h0 := by first | omega | decide) (hy := by first | exact map_at hp | exact fieldAt_ix hn | exact was_0 hW (by omega) | exact was_1 hW (by omega) | exact co6_0 (by omega) | exact co6_1 (by omega) | exact co_at (by omega) | exact co_0 (by omega))) ?_
        first | refine qy (k_ldr T.ts_27) ?_ | refine qy (k_lda T.ts_27) ?_
        refine qy a_move ?_
        refine qy (a_ix (hT := T.es_40) (h0 := by first | omega | decide) (hy := by first | exact map_at hp | exact fieldAt_ix hn | exact was_0 hW (by omega) | exact was_1 hW (by omega) | exact co6_0 (by omega) | exact co6_1 (by omega) | exact co_at (by omega) | exact co_0 (by omega))) ?_
        first | refine qy (k_ldr T.ts_24) ?_ | refine qy (k_lda T.ts_24) ?_
        refine qy (a_call (hf := T.en_72) (hc := by exact moved_any _ _)) ?_
        refine qy a_move ?_
        refine qy (a_call (hf := T.en_71) (hc := by first | exact refPut_any _ _ _ hok2 (was_ok ho hall (by omega)) | exact refPut_any _ x.field _ hok2 hx0.1 | exact refPut_any _ ⟨named x.at_ x.name, 1, noB, [], (at0 (wasL l x)).worth⟩ _ hok2 (Nat.zero_le _) | exact refPut_any _ ⟨named x.at_ x.other, 1, noB, [], (at0 (wasL l x)).worth * x.factor⟩ _ (okL_put hok2 (Nat.zero_le _)) (Nat.zero_le _) | exact refPut_any _ ⟨x.at_, 4, noB, [], 0⟩ _ hok2 (Nat.zero_le _) | exact refPut_any _ ⟨x.at_, 1, noB, [], (at0 (wasL l x)).worth⟩ _ hok2 (Nat.zero_le _) | exact refPut_any _ ⟨x.at_, 2, x.other, [], 0⟩ _ hok2 (Nat.zero_le _) | exact refPut_any _ ⟨x.at_, 3, x.other, froms x.back, 0⟩ _ hok2 (froms_ok hx0.2.2))) ?_
        refine qy a_move ?_
        refine qy a_ext ?_
        refine qy a_ext ?_
        refine qy a_assign ?_
        refine qy a_assign ?_
        show _
        refine vc_then ?_
        refine vc_then ?_
        refine vc_region ?_
        first | refine vy (a_fr (hf := T.fo_30_0)) ?_ | refine vy (a_fa (hf := T.fo_30_0)) ?_
        first | refine vy (k_ldr T.ts_3) ?_ | refine vy (k_lda T.ts_3) ?_
        refine vy (a_bin (hr := by first | exact pr_add1 (by omega) | exact pr_mul (wrap64 _ (mul_bound (was_worth hl hall (by omega)) (factor_ok hx (by omega)))) | exact pr_eql | exact pr_eqs | exact pr_eqb Try.underlying3)) ?_
        refine vl_nil ?_
        refine vif (fun hc18 => ?_) (fun hc18 => ?_)
        · -- yes
         exfalso; have hdead := hc18; simp at hdead <;> omega
        · -- no
         have hnkind_2 : ¬ x.kind = 2 := by simpa using hc18
         refine vc_skip ?_
         refine vc_then ?_
         refine vc_then ?_
         refine vc_region ?_
         first | refine vy (a_fr (hf := T.fo_30_0)) ?_ | refine vy (a_fa (hf := T.fo_30_0)) ?_
         first | refine vy (k_ldr T.ts_3) ?_ | refine vy (k_lda T.ts_3) ?_
         refine vy (a_bin (hr := by first | exact pr_add1 (by omega) | exact pr_mul (wrap64 _ (mul_bound (was_worth hl hall (by omega)) (factor_ok hx (by omega)))) | exact pr_eql | exact pr_eqs | exact pr_eqb Try.underlying3)) ?_
         refine vl_nil ?_
         refine vif (fun hc19 => ?_) (fun hc19 => ?_)
         · -- yes
          exfalso; have hdead := hc19; simp at hdead <;> omega
         · -- no
          have hnkind_3 : ¬ x.kind = 3 := by simpa using hc19
          refine vc_skip ?_
          refine vc_then ?_
          refine vc_then ?_
          refine vc_region ?_
          first | refine vy (a_fr (hf := T.fo_30_0)) ?_ | refine vy (a_fa (hf := T.fo_30_0)) ?_
          first | refine vy (k_ldr T.ts_3) ?_ | refine vy (k_lda T.ts_3) ?_
          refine vy (a_bin (hr := by first | exact pr_add1 (by omega) | exact pr_mul (wrap64 _ (mul_bound (was_worth hl hall (by omega)) (factor_ok hx (by omega)))) | exact pr_eql | exact pr_eqs | exact pr_eqb Try.underlying3)) ?_
          refine vl_nil ?_
          refine vif (fun hc20 => ?_) (fun hc20 => ?_)
          · -- yes
           exfalso; have hdead := hc20; simp at hdead <;> omega
          · -- no
           have hnkind_6 : ¬ x.kind = 6 := by simpa using hc20
           refine vc_skip ?_
           refine vc_then ?_
           refine vc_then ?_
           refine vc_region ?_
           first | refine vy (a_fr (hf := T.fo_30_0)) ?_ | refine vy (a_fa (hf := T.fo_30_0)) ?_
           first | refine vy (k_ldr T.ts_3) ?_ | refine vy (k_lda T.ts_3) ?_
           refine vy (a_bin (hr := by first | exact pr_add1 (by omega) | exact pr_mul (wrap64 _ (mul_bound (was_worth hl hall (by omega)) (factor_ok hx (by omega)))) | exact pr_eql | exact pr_eqs | exact pr_eqb Try.underlying3)) ?_
           refine vl_nil ?_
           refine vif (fun hc21 => ?_) (fun hc21 => ?_)
           · -- yes
            exfalso; have hdead := hc21; simp at hdead <;> omega
           · -- no
            have hnkind_7 : ¬ x.kind = 7 := by simpa using hc21
            refine vc_skip ?_
            refine vc_then ?_
            refine vc_then ?_
            refine vc_region ?_
            first | refine vy (a_fr (hf := T.fo_30_0)) ?_ | refine vy (a_fa (hf := T.fo_30_0)) ?_
            first | refine vy (k_ldr T.ts_3) ?_ | refine vy (k_lda T.ts_3) ?_
            refine vy (a_bin (hr := by first | exact pr_add1 (by omega) | exact pr_mul (wrap64 _ (mul_bound (was_worth hl hall (by omega)) (factor_ok hx (by omega)))) | exact pr_eql | exact pr_eqs | exact pr_eqb Try.underlying3)) ?_
            refine vl_nil ?_
            refine vif (fun hc22 => ?_) (fun hc22 => ?_)
            · -- yes
             exfalso; have hdead := hc22; simp at hdead <;> omega
            · -- no
             have hnkind_8 : ¬ x.kind = 8 := by simpa using hc22
             refine vc_skip ?_
             refine vc_then ?_
             refine vc_then ?_
             refine vc_region ?_
             first | refine vy (a_fr (hf := T.fo_30_0)) ?_ | refine vy (a_fa (hf := T.fo_30_0)) ?_
             first | refine vy (k_ldr T.ts_3) ?_ | refine vy (k_lda T.ts_3) ?_
             refine vy (a_bin (hr := by first | exact pr_add1 (by omega) | exact pr_mul (wrap64 _ (mul_bound (was_worth hl hall (by omega)) (factor_ok hx (by omega)))) | exact pr_eql | exact pr_eqs | exact pr_eqb Try.underlying3)) ?_
             refine vl_nil ?_
             refine vif (fun hc23 => ?_) (fun hc23 => ?_)
             · -- yes
              exfalso; have hdead := hc23; simp at hdead <;> omega
             · -- no
              have hnkind_9 : ¬ x.kind = 9 := by simpa using hc23
              refine vc_skip ?_
              refine vc_then ?_
              refine vc_then ?_
              refine vc_region ?_
              first | refine vy (a_fr (hf := T.fo_30_0)) ?_ | refine vy (a_fa (hf := T.fo_30_0)) ?_
              first | refine vy (k_ldr T.ts_3) ?_ | refine vy (k_lda T.ts_3) ?_
              refine vy (a_bin (hr := by first | exact pr_add1 (by omega) | exact pr_mul (wrap64 _ (mul_bound (was_worth hl hall (by omega)) (factor_ok hx (by omega)))) | exact pr_eql | exact pr_eqs | exact pr_eqb Try.underlying3)) ?_
              refine vl_nil ?_
              refine vif (fun hc24 => ?_) (fun hc24 => ?_)
              · -- yes
               exfalso; have hdead := hc24; simp at hdead <;> omega
              · -- no
               have hnkind_10 : ¬ x.kind = 10 := by simpa using hc24
               refine vc_skip ?_
               refine vc_then ?_
               refine vc_then ?_
               refine vc_region ?_
               refine vy a_move ?_
               refine vy a_not ?_
               refine vl_nil ?_
               refine vif (fun hc25 => ?_) (fun hc25 => ?_)
               · -- yes
                have hbad : _ = true := hc25
                refine vc_then ?_
                refine vc_region ?_
                refine vy a_assign ?_
                refine vy a_assign ?_
                refine vl_nil ?_
                refine vc_ret ?_
                refine fin ?_
                simp only [fitsL, fits, C.asD, and_true]
                all_goals (first | (rw [app_5 h5]; exact ⟨rfl, rfl⟩) | (rw [refApp_gone hl hx hp hgone]; exact ⟨rfl, rfl⟩) | (exfalso; have hrk := right_kind hx; omega) | (clear hW hRe hok2 hall hpe hal hR hA hok hAl hk; generalize at0 (wasL l x) = w at *; generalize at1 (wasL l x) = v at *; generalize s.2.2.2 = R at *; first | (refine app_16 (m := []) hgo ?_; clear hgo; unfold refA; simp_all; done) | (refine app_0 hgo ?_ ?_ <;> (clear hgo; unfold refA; simp_all; done))))
               · -- no
                have hgood : _ = false := hc25
                refine vc_skip ?_
                refine vc_then ?_
                refine vc_region ?_
                refine vy a_move ?_
                refine vy a_assign ?_
                refine vy a_assign ?_
                refine vl_nil ?_
                refine vc_ret ?_
                refine fin ?_
                simp only [fitsL, fits, C.asD, and_true]
                all_goals (first | (rw [app_5 h5]; exact ⟨rfl, rfl⟩) | (rw [refApp_gone hl hx hp hgone]; exact ⟨rfl, rfl⟩) | (exfalso; have hrk := right_kind hx; omega) | (clear hW hRe hok2 hall hpe hal hR hA hok hAl hk; generalize at0 (wasL l x) = w at *; generalize at1 (wasL l x) = v at *; generalize s.2.2.2 = R at *; first | (refine app_16 (m := []) hgo ?_; clear hgo; unfold refA; simp_all; done) | (refine app_0 hgo ?_ ?_ <;> (clear hgo; unfold refA; simp_all; done))))
       · -- no
        first | (exfalso; have hdead := hc17; simp at hdead <;> omega) | (exfalso; simp_all; done)
      · -- guard no
       have hnkind_4 : ¬ x.kind = 4 := by simpa using hg16
       first | refine vy (a_fr (hf := T.fo_30_0)) ?_ | refine vy (a_fa (hf := T.fo_30_0)) ?_
       first | refine vy (k_ldr T.ts_3) ?_ | refine vy (k_lda T.ts_3) ?_
       refine vy (a_bin (hr := by first | exact pr_add1 (by omega) | exact pr_mul (wrap64 _ (mul_bound (was_worth hl hall (by omega)) (factor_ok hx (by omega)))) | exact pr_eql | exact pr_eqs | exact pr_eqb Try.underlying3)) ?_
       refine vy a_pick ?_
       refine vl_nil ?_
       refine vif (fun hc26 => ?_) (fun hc26 => ?_)
       · -- yes
        have hkkind_5 : x.kind = 5 := by simpa using hc26
        refine vc_drawn0 T.mixed ?_
        refine qy a_move ?_
        refine qy a_move ?_
        refine qy (a_ix (hT := T.es_22) (h0 := by first | omega | decide) (hy := by first | exact map_at hp | exact fieldAt_ix hn | exact was_0 hW (by omega) | exact was_1 hW (by omega) | exact co6_0 (by omega) | exact co6_1 (by omega) | exact co_at (by omega) | exact co_0 (by omega))) ?_
        first | refine qy (k_ldr T.ts_27) ?_ | refine qy (k_lda T.ts_27) ?_
        refine qy a_move ?_
        refine qy (a_ix (hT := T.es_40) (h0 := by first | omega | decide) (hy := by first | exact map_at hp | exact fieldAt_ix hn | exact was_0 hW (by omega) | exact was_1 hW (by omega) | exact co6_0 (by omega) | exact co6_1 (by omega) | exact co_at (by omega) | exact co_0 (by omega))) ?_
        first | refine qy (k_ldr T.ts_24) ?_ | refine qy (k_lda T.ts_24) ?_
        refine qy (a_call (hf := T.en_72) (hc := by exact moved_any _ _)) ?_
        refine qy a_move ?_
        refine qy (a_call (hf := T.en_71) (hc := by first | exact refPut_any _ _ _ hok2 (was_ok ho hall (by omega)) | exact refPut_any _ x.field _ hok2 hx0.1 | exact refPut_any _ ⟨named x.at_ x.name, 1, noB, [], (at0 (wasL l x)).worth⟩ _ hok2 (Nat.zero_le _) | exact refPut_any _ ⟨named x.at_ x.other, 1, noB, [], (at0 (wasL l x)).worth * x.factor⟩ _ (okL_put hok2 (Nat.zero_le _)) (Nat.zero_le _) | exact refPut_any _ ⟨x.at_, 4, noB, [], 0⟩ _ hok2 (Nat.zero_le _) | exact refPut_any _ ⟨x.at_, 1, noB, [], (at0 (wasL l x)).worth⟩ _ hok2 (Nat.zero_le _) | exact refPut_any _ ⟨x.at_, 2, x.other, [], 0⟩ _ hok2 (Nat.zero_le _) | exact refPut_any _ ⟨x.at_, 3, x.other, froms x.back, 0⟩ _ hok2 (froms_ok hx0.2.2))) ?_
        refine qy a_move ?_
        refine qy a_ext ?_
        refine qy a_ext ?_
        refine qy a_assign ?_
        refine qy a_assign ?_
        show _
        refine vc_then ?_
        refine vc_then ?_
        refine vc_region ?_
        first | refine vy (a_fr (hf := T.fo_30_0)) ?_ | refine vy (a_fa (hf := T.fo_30_0)) ?_
        first | refine vy (k_ldr T.ts_3) ?_ | refine vy (k_lda T.ts_3) ?_
        refine vy (a_bin (hr := by first | exact pr_add1 (by omega) | exact pr_mul (wrap64 _ (mul_bound (was_worth hl hall (by omega)) (factor_ok hx (by omega)))) | exact pr_eql | exact pr_eqs | exact pr_eqb Try.underlying3)) ?_
        refine vl_nil ?_
        refine vif (fun hc27 => ?_) (fun hc27 => ?_)
        · -- yes
         exfalso; have hdead := hc27; simp at hdead <;> omega
        · -- no
         have hnkind_2 : ¬ x.kind = 2 := by simpa using hc27
         refine vc_skip ?_
         refine vc_then ?_
         refine vc_then ?_
         refine vc_region ?_
         first | refine vy (a_fr (hf := T.fo_30_0)) ?_ | refine vy (a_fa (hf := T.fo_30_0)) ?_
         first | refine vy (k_ldr T.ts_3) ?_ | refine vy (k_lda T.ts_3) ?_
         refine vy (a_bin (hr := by first | exact pr_add1 (by omega) | exact pr_mul (wrap64 _ (mul_bound (was_worth hl hall (by omega)) (factor_ok hx (by omega)))) | exact pr_eql | exact pr_eqs | exact pr_eqb Try.underlying3)) ?_
         refine vl_nil ?_
         refine vif (fun hc28 => ?_) (fun hc28 => ?_)
         · -- yes
          exfalso; have hdead := hc28; simp at hdead <;> omega
         · -- no
          have hnkind_3 : ¬ x.kind = 3 := by simpa using hc28
          refine vc_skip ?_
          refine vc_then ?_
          refine vc_then ?_
          refine vc_region ?_
          first | refine vy (a_fr (hf := T.fo_30_0)) ?_ | refine vy (a_fa (hf := T.fo_30_0)) ?_
          first | refine vy (k_ldr T.ts_3) ?_ | refine vy (k_lda T.ts_3) ?_
          refine vy (a_bin (hr := by first | exact pr_add1 (by omega) | exact pr_mul (wrap64 _ (mul_bound (was_worth hl hall (by omega)) (factor_ok hx (by omega)))) | exact pr_eql | exact pr_eqs | exact pr_eqb Try.underlying3)) ?_
          refine vl_nil ?_
          refine vif (fun hc29 => ?_) (fun hc29 => ?_)
          · -- yes
           exfalso; have hdead := hc29; simp at hdead <;> omega
          · -- no
           have hnkind_6 : ¬ x.kind = 6 := by simpa using hc29
           refine vc_skip ?_
           refine vc_then ?_
           refine vc_then ?_
           refine vc_region ?_
           first | refine vy (a_fr (hf := T.fo_30_0)) ?_ | refine vy (a_fa (hf := T.fo_30_0)) ?_
           first | refine vy (k_ldr T.ts_3) ?_ | refine vy (k_lda T.ts_3) ?_
           refine vy (a_bin (hr := by first | exact pr_add1 (by omega) | exact pr_mul (wrap64 _ (mul_bound (was_worth hl hall (by omega)) (factor_ok hx (by omega)))) | exact pr_eql | exact pr_eqs | exact pr_eqb Try.underlying3)) ?_
           refine vl_nil ?_
           refine vif (fun hc30 => ?_) (fun hc30 => ?_)
           · -- yes
            exfalso; have hdead := hc30; simp at hdead <;> omega
           · -- no
            have hnkind_7 : ¬ x.kind = 7 := by simpa using hc30
            refine vc_skip ?_
            refine vc_then ?_
            refine vc_then ?_
            refine vc_region ?_
            first | refine vy (a_fr (hf := T.fo_30_0)) ?_ | refine vy (a_fa (hf := T.fo_30_0)) ?_
            first | refine vy (k_ldr T.ts_3) ?_ | refine vy (k_lda T.ts_3) ?_
            refine vy (a_bin (hr := by first | exact pr_add1 (by omega) | exact pr_mul (wrap64 _ (mul_bound (was_worth hl hall (by omega)) (factor_ok hx (by omega)))) | exact pr_eql | exact pr_eqs | exact pr_eqb Try.underlying3)) ?_
            refine vl_nil ?_
            refine vif (fun hc31 => ?_) (fun hc31 => ?_)
            · -- yes
             exfalso; have hdead := hc31; simp at hdead <;> omega
            · -- no
             have hnkind_8 : ¬ x.kind = 8 := by simpa using hc31
             refine vc_skip ?_
             refine vc_then ?_
             refine vc_then ?_
             refine vc_region ?_
             first | refine vy (a_fr (hf := T.fo_30_0)) ?_ | refine vy (a_fa (hf := T.fo_30_0)) ?_
             first | refine vy (k_ldr T.ts_3) ?_ | refine vy (k_lda T.ts_3) ?_
             refine vy (a_bin (hr := by first | exact pr_add1 (by omega) | exact pr_mul (wrap64 _ (mul_bound (was_worth hl hall (by omega)) (factor_ok hx (by omega)))) | exact pr_eql | exact pr_eqs | exact pr_eqb Try.underlying3)) ?_
             refine vl_nil ?_
             refine vif (fun hc32 => ?_) (fun hc32 => ?_)
             · -- yes
              exfalso; have hdead := hc32; simp at hdead <;> omega
             · -- no
              have hnkind_9 : ¬ x.kind = 9 := by simpa using hc32
              refine vc_skip ?_
              refine vc_then ?_
              refine vc_then ?_
              refine vc_region ?_
              first | refine vy (a_fr (hf := T.fo_30_0)) ?_ | refine vy (a_fa (hf := T.fo_30_0)) ?_
              first | refine vy (k_ldr T.ts_3) ?_ | refine vy (k_lda T.ts_3) ?_
              refine vy (a_bin (hr := by first | exact pr_add1 (by omega) | exact pr_mul (wrap64 _ (mul_bound (was_worth hl hall (by omega)) (factor_ok hx (by omega)))) | exact pr_eql | exact pr_eqs | exact pr_eqb Try.underlying3)) ?_
              refine vl_nil ?_
              refine vif (fun hc33 => ?_) (fun hc33 => ?_)
              · -- yes
               exfalso; have hdead := hc33; simp at hdead <;> omega
              · -- no
               have hnkind_10 : ¬ x.kind = 10 := by simpa using hc33
               refine vc_skip ?_
               refine vc_then ?_
               refine vc_then ?_
               refine vc_region ?_
               refine vy a_move ?_
               refine vy a_not ?_
               refine vl_nil ?_
               refine vif (fun hc34 => ?_) (fun hc34 => ?_)
               · -- yes
                have hbad : _ = true := hc34
                refine vc_then ?_
                refine vc_region ?_
                refine vy a_assign ?_
                refine vy a_assign ?_
                refine vl_nil ?_
                refine vc_ret ?_
                refine fin ?_
                simp only [fitsL, fits, C.asD, and_true]
                all_goals (first | (rw [app_5 h5]; exact ⟨rfl, rfl⟩) | (rw [refApp_gone hl hx hp hgone]; exact ⟨rfl, rfl⟩) | (exfalso; have hrk := right_kind hx; omega) | (clear hW hRe hok2 hall hpe hal hR hA hok hAl hk; generalize at0 (wasL l x) = w at *; generalize at1 (wasL l x) = v at *; generalize s.2.2.2 = R at *; first | (refine app_16 (m := []) hgo ?_; clear hgo; unfold refA; simp_all; done) | (refine app_0 hgo ?_ ?_ <;> (clear hgo; unfold refA; simp_all; done))))
               · -- no
                have hgood : _ = false := hc34
                refine vc_skip ?_
                refine vc_then ?_
                refine vc_region ?_
                refine vy a_move ?_
                refine vy a_assign ?_
                refine vy a_assign ?_
                refine vl_nil ?_
                refine vc_ret ?_
                refine fin ?_
                simp only [fitsL, fits, C.asD, and_true]
                all_goals (first | (rw [app_5 h5]; exact ⟨rfl, rfl⟩) | (rw [refApp_gone hl hx hp hgone]; exact ⟨rfl, rfl⟩) | (exfalso; have hrk := right_kind hx; omega) | (clear hW hRe hok2 hall hpe hal hR hA hok hAl hk; generalize at0 (wasL l x) = w at *; generalize at1 (wasL l x) = v at *; generalize s.2.2.2 = R at *; first | (refine app_16 (m := []) hgo ?_; clear hgo; unfold refA; simp_all; done) | (refine app_0 hgo ?_ ?_ <;> (clear hgo; unfold refA; simp_all; done))))
       · -- no
        have hnkind_5 : ¬ x.kind = 5 := by simpa using hc26
        refine vc_skip ?_
        refine vc_then ?_
        refine vc_then ?_
        refine vc_region ?_
        first | refine vy (a_fr (hf := T.fo_30_0)) ?_ | refine vy (a_fa (hf := T.fo_30_0)) ?_
        first | refine vy (k_ldr T.ts_3) ?_ | refine vy (k_lda T.ts_3) ?_
        refine vy (a_bin (hr := by first | exact pr_add1 (by omega) | exact pr_mul (wrap64 _ (mul_bound (was_worth hl hall (by omega)) (factor_ok hx (by omega)))) | exact pr_eql | exact pr_eqs | exact pr_eqb Try.underlying3)) ?_
        refine vl_nil ?_
        refine vif (fun hc35 => ?_) (fun hc35 => ?_)
        · -- yes
         have hkkind_2 : x.kind = 2 := by simpa using hc35
         refine vc_region ?_
         refine vy a_move ?_
         first | refine vy (a_fr (hf := T.fo_30_5)) ?_ | refine vy (a_fa (hf := T.fo_30_5)) ?_
         first | refine vy (k_ldr T.ts_27) ?_ | refine vy (k_lda T.ts_27) ?_
         refine vy a_move ?_
         refine vy (a_call (hf := T.en_71) (hc := by first | exact refPut_any _ _ _ hok2 (was_ok ho hall (by omega)) | exact refPut_any _ x.field _ hok2 hx0.1 | exact refPut_any _ ⟨named x.at_ x.name, 1, noB, [], (at0 (wasL l x)).worth⟩ _ hok2 (Nat.zero_le _) | exact refPut_any _ ⟨named x.at_ x.other, 1, noB, [], (at0 (wasL l x)).worth * x.factor⟩ _ (okL_put hok2 (Nat.zero_le _)) (Nat.zero_le _) | exact refPut_any _ ⟨x.at_, 4, noB, [], 0⟩ _ hok2 (Nat.zero_le _) | exact refPut_any _ ⟨x.at_, 1, noB, [], (at0 (wasL l x)).worth⟩ _ hok2 (Nat.zero_le _) | exact refPut_any _ ⟨x.at_, 2, x.other, [], 0⟩ _ hok2 (Nat.zero_le _) | exact refPut_any _ ⟨x.at_, 3, x.other, froms x.back, 0⟩ _ hok2 (froms_ok hx0.2.2))) ?_
         refine vy a_move ?_
         refine vy a_ext ?_
         refine vy a_ext ?_
         refine vy a_assign ?_
         refine vy a_assign ?_
         refine vl_nil ?_
         refine vc_then ?_
         refine vc_then ?_
         refine vc_region ?_
         first | refine vy (a_fr (hf := T.fo_30_0)) ?_ | refine vy (a_fa (hf := T.fo_30_0)) ?_
         first | refine vy (k_ldr T.ts_3) ?_ | refine vy (k_lda T.ts_3) ?_
         refine vy (a_bin (hr := by first | exact pr_add1 (by omega) | exact pr_mul (wrap64 _ (mul_bound (was_worth hl hall (by omega)) (factor_ok hx (by omega)))) | exact pr_eql | exact pr_eqs | exact pr_eqb Try.underlying3)) ?_
         refine vl_nil ?_
         refine vif (fun hc36 => ?_) (fun hc36 => ?_)
         · -- yes
          exfalso; have hdead := hc36; simp at hdead <;> omega
         · -- no
          have hnkind_3 : ¬ x.kind = 3 := by simpa using hc36
          refine vc_skip ?_
          refine vc_then ?_
          refine vc_then ?_
          refine vc_region ?_
          first | refine vy (a_fr (hf := T.fo_30_0)) ?_ | refine vy (a_fa (hf := T.fo_30_0)) ?_
          first | refine vy (k_ldr T.ts_3) ?_ | refine vy (k_lda T.ts_3) ?_
          refine vy (a_bin (hr := by first | exact pr_add1 (by omega) | exact pr_mul (wrap64 _ (mul_bound (was_worth hl hall (by omega)) (factor_ok hx (by omega)))) | exact pr_eql | exact pr_eqs | exact pr_eqb Try.underlying3)) ?_
          refine vl_nil ?_
          refine vif (fun hc37 => ?_) (fun hc37 => ?_)
          · -- yes
           exfalso; have hdead := hc37; simp at hdead <;> omega
          · -- no
           have hnkind_6 : ¬ x.kind = 6 := by simpa using hc37
           refine vc_skip ?_
           refine vc_then ?_
           refine vc_then ?_
           refine vc_region ?_
           first | refine vy (a_fr (hf := T.fo_30_0)) ?_ | refine vy (a_fa (hf := T.fo_30_0)) ?_
           first | refine vy (k_ldr T.ts_3) ?_ | refine vy (k_lda T.ts_3) ?_
           refine vy (a_bin (hr := by first | exact pr_add1 (by omega) | exact pr_mul (wrap64 _ (mul_bound (was_worth hl hall (by omega)) (factor_ok hx (by omega)))) | exact pr_eql | exact pr_eqs | exact pr_eqb Try.underlying3)) ?_
           refine vl_nil ?_
           refine vif (fun hc38 => ?_) (fun hc38 => ?_)
           · -- yes
            exfalso; have hdead := hc38; simp at hdead <;> omega
           · -- no
            have hnkind_7 : ¬ x.kind = 7 := by simpa using hc38
            refine vc_skip ?_
            refine vc_then ?_
            refine vc_then ?_
            refine vc_region ?_
            first | refine vy (a_fr (hf := T.fo_30_0)) ?_ | refine vy (a_fa (hf := T.fo_30_0)) ?_
            first | refine vy (k_ldr T.ts_3) ?_ | refine vy (k_lda T.ts_3) ?_
            refine vy (a_bin (hr := by first | exact pr_add1 (by omega) | exact pr_mul (wrap64 _ (mul_bound (was_worth hl hall (by omega)) (factor_ok hx (by omega)))) | exact pr_eql | exact pr_eqs | exact pr_eqb Try.underlying3)) ?_
            refine vl_nil ?_
            refine vif (fun hc39 => ?_) (fun hc39 => ?_)
            · -- yes
             exfalso; have hdead := hc39; simp at hdead <;> omega
            · -- no
             have hnkind_8 : ¬ x.kind = 8 := by simpa using hc39
             refine vc_skip ?_
             refine vc_then ?_
             refine vc_then ?_
             refine vc_region ?_
             first | refine vy (a_fr (hf := T.fo_30_0)) ?_ | refine vy (a_fa (hf := T.fo_30_0)) ?_
             first | refine vy (k_ldr T.ts_3) ?_ | refine vy (k_lda T.ts_3) ?_
             refine vy (a_bin (hr := by first | exact pr_add1 (by omega) | exact pr_mul (wrap64 _ (mul_bound (was_worth hl hall (by omega)) (factor_ok hx (by omega)))) | exact pr_eql | exact pr_eqs | exact pr_eqb Try.underlying3)) ?_
             refine vl_nil ?_
             refine vif (fun hc40 => ?_) (fun hc40 => ?_)
             · -- yes
              exfalso; have hdead := hc40; simp at hdead <;> omega
             · -- no
              have hnkind_9 : ¬ x.kind = 9 := by simpa using hc40
              refine vc_skip ?_
              refine vc_then ?_
              refine vc_then ?_
              refine vc_region ?_
              first | refine vy (a_fr (hf := T.fo_30_0)) ?_ | refine vy (a_fa (hf := T.fo_30_0)) ?_
              first | refine vy (k_ldr T.ts_3) ?_ | refine vy (k_lda T.ts_3) ?_
              refine vy (a_bin (hr := by first | exact pr_add1 (by omega) | exact pr_mul (wrap64 _ (mul_bound (was_worth hl hall (by omega)) (factor_ok hx (by omega)))) | exact pr_eql | exact pr_eqs | exact pr_eqb Try.underlying3)) ?_
              refine vl_nil ?_
              refine vif (fun hc41 => ?_) (fun hc41 => ?_)
              · -- yes
               exfalso; have hdead := hc41; simp at hdead <;> omega
              · -- no
               have hnkind_10 : ¬ x.kind = 10 := by simpa using hc41
               refine vc_skip ?_
               refine vc_then ?_
               refine vc_then ?_
               refine vc_region ?_
               refine vy a_move ?_
               refine vy a_not ?_
               refine vl_nil ?_
               refine vif (fun hc42 => ?_) (fun hc42 => ?_)
               · -- yes
                have hbad : _ = true := hc42
                refine vc_then ?_
                refine vc_region ?_
                refine vy a_assign ?_
                refine vy a_assign ?_
                refine vl_nil ?_
                refine vc_ret ?_
                refine fin ?_
                simp only [fitsL, fits, C.asD, and_true]
                all_goals (first | (rw [app_5 h5]; exact ⟨rfl, rfl⟩) | (rw [refApp_gone hl hx hp hgone]; exact ⟨rfl, rfl⟩) | (exfalso; have hrk := right_kind hx; omega) | (clear hW hRe hok2 hall hpe hal hR hA hok hAl hk; generalize at0 (wasL l x) = w at *; generalize at1 (wasL l x) = v at *; generalize s.2.2.2 = R at *; first | (refine app_16 (m := []) hgo ?_; clear hgo; unfold refA; simp_all; done) | (refine app_0 hgo ?_ ?_ <;> (clear hgo; unfold refA; simp_all; done))))
               · -- no
                have hgood : _ = false := hc42
                refine vc_skip ?_
                refine vc_then ?_
                refine vc_region ?_
                refine vy a_move ?_
                refine vy a_assign ?_
                refine vy a_assign ?_
                refine vl_nil ?_
                refine vc_ret ?_
                refine fin ?_
                simp only [fitsL, fits, C.asD, and_true]
                all_goals (first | (rw [app_5 h5]; exact ⟨rfl, rfl⟩) | (rw [refApp_gone hl hx hp hgone]; exact ⟨rfl, rfl⟩) | (exfalso; have hrk := right_kind hx; omega) | (clear hW hRe hok2 hall hpe hal hR hA hok hAl hk; generalize at0 (wasL l x) = w at *; generalize at1 (wasL l x) = v at *; generalize s.2.2.2 = R at *; first | (refine app_16 (m := []) hgo ?_; clear hgo; unfold refA; simp_all; done) | (refine app_0 hgo ?_ ?_ <;> (clear hgo; unfold refA; simp_all; done))))
        · -- no
         have hnkind_2 : ¬ x.kind = 2 := by simpa using hc35
         refine vc_skip ?_
         refine vc_then ?_
         refine vc_then ?_
         refine vc_region ?_
         first | refine vy (a_fr (hf := T.fo_30_0)) ?_ | refine vy (a_fa (hf := T.fo_30_0)) ?_
         first | refine vy (k_ldr T.ts_3) ?_ | refine vy (k_lda T.ts_3) ?_
         refine vy (a_bin (hr := by first | exact pr_add1 (by omega) | exact pr_mul (wrap64 _ (mul_bound (was_worth hl hall (by omega)) (factor_ok hx (by omega)))) | exact pr_eql | exact pr_eqs | exact pr_eqb Try.underlying3)) ?_
         refine vl_nil ?_
         refine vif (fun hc43 => ?_) (fun hc43 => ?_)
         · -- yes
          have hkkind_3 : x.kind = 3 := by simpa using hc43
          refine vc_drawn0 T.mixed ?_
          refine qy a_move ?_
          refine qy (a_ix (hT := T.es_22) (h0 := by first | omega | decide) (hy := by first | exact map_at hp | exact fieldAt_ix hn | exact was_0 hW (by omega) | exact was_1 hW (by omega) | exact co6_0 (by omega) | exact co6_1 (by omega) | exact co_at (by omega) | exact co_0 (by omega))) ?_
          first | refine qy (k_ldr T.ts_27) ?_ | refine qy (k_lda T.ts_27) ?_
          first | refine qy (a_fr (hf := T.fo_30_5)) ?_ | refine qy (a_fa (hf := T.fo_30_5)) ?_
          first | refine qy (k_ldr T.ts_27) ?_ | refine qy (k_lda T.ts_27) ?_
          refine qy (a_call (hf := T.en_25) (hc := by exact refFieldSame_any _ _ (was_ok ho hall (by omega)))) ?_
          refine qy a_assign ?_
          show _
          refine vc_then ?_
          refine vc_then ?_
          refine vc_region ?_
          first | refine vy (a_fr (hf := T.fo_30_0)) ?_ | refine vy (a_fa (hf := T.fo_30_0)) ?_
          first | refine vy (k_ldr T.ts_3) ?_ | refine vy (k_lda T.ts_3) ?_
          refine vy (a_bin (hr := by first | exact pr_add1 (by omega) | exact pr_mul (wrap64 _ (mul_bound (was_worth hl hall (by omega)) (factor_ok hx (by omega)))) | exact pr_eql | exact pr_eqs | exact pr_eqb Try.underlying3)) ?_
          refine vl_nil ?_
          refine vif (fun hc44 => ?_) (fun hc44 => ?_)
          · -- yes
           exfalso; have hdead := hc44; simp at hdead <;> omega
          · -- no
           have hnkind_6 : ¬ x.kind = 6 := by simpa using hc44
           refine vc_skip ?_
           refine vc_then ?_
           refine vc_then ?_
           refine vc_region ?_
           first | refine vy (a_fr (hf := T.fo_30_0)) ?_ | refine vy (a_fa (hf := T.fo_30_0)) ?_
           first | refine vy (k_ldr T.ts_3) ?_ | refine vy (k_lda T.ts_3) ?_
           refine vy (a_bin (hr := by first | exact pr_add1 (by omega) | exact pr_mul (wrap64 _ (mul_bound (was_worth hl hall (by omega)) (factor_ok hx (by omega)))) | exact pr_eql | exact pr_eqs | exact pr_eqb Try.underlying3)) ?_
           refine vl_nil ?_
           refine vif (fun hc45 => ?_) (fun hc45 => ?_)
           · -- yes
            exfalso; have hdead := hc45; simp at hdead <;> omega
           · -- no
            have hnkind_7 : ¬ x.kind = 7 := by simpa using hc45
            refine vc_skip ?_
            refine vc_then ?_
            refine vc_then ?_
            refine vc_region ?_
            first | refine vy (a_fr (hf := T.fo_30_0)) ?_ | refine vy (a_fa (hf := T.fo_30_0)) ?_
            first | refine vy (k_ldr T.ts_3) ?_ | refine vy (k_lda T.ts_3) ?_
            refine vy (a_bin (hr := by first | exact pr_add1 (by omega) | exact pr_mul (wrap64 _ (mul_bound (was_worth hl hall (by omega)) (factor_ok hx (by omega)))) | exact pr_eql | exact pr_eqs | exact pr_eqb Try.underlying3)) ?_
            refine vl_nil ?_
            refine vif (fun hc46 => ?_) (fun hc46 => ?_)
            · -- yes
             exfalso; have hdead := hc46; simp at hdead <;> omega
            · -- no
             have hnkind_8 : ¬ x.kind = 8 := by simpa using hc46
             refine vc_skip ?_
             refine vc_then ?_
             refine vc_then ?_
             refine vc_region ?_
             first | refine vy (a_fr (hf := T.fo_30_0)) ?_ | refine vy (a_fa (hf := T.fo_30_0)) ?_
             first | refine vy (k_ldr T.ts_3) ?_ | refine vy (k_lda T.ts_3) ?_
             refine vy (a_bin (hr := by first | exact pr_add1 (by omega) | exact pr_mul (wrap64 _ (mul_bound (was_worth hl hall (by omega)) (factor_ok hx (by omega)))) | exact pr_eql | exact pr_eqs | exact pr_eqb Try.underlying3)) ?_
             refine vl_nil ?_
             refine vif (fun hc47 => ?_) (fun hc47 => ?_)
             · -- yes
              exfalso; have hdead := hc47; simp at hdead <;> omega
             · -- no
              have hnkind_9 : ¬ x.kind = 9 := by simpa using hc47
              refine vc_skip ?_
              refine vc_then ?_
              refine vc_then ?_
              refine vc_region ?_
              first | refine vy (a_fr (hf := T.fo_30_0)) ?_ | refine vy (a_fa (hf := T.fo_30_0)) ?_
              first | refine vy (k_ldr T.ts_3) ?_ | refine vy (k_lda T.ts_3) ?_
              refine vy (a_bin (hr := by first | exact pr_add1 (by omega) | exact pr_mul (wrap64 _ (mul_bound (was_worth hl hall (by omega)) (factor_ok hx (by omega)))) | exact pr_eql | exact pr_eqs | exact pr_eqb Try.underlying3)) ?_
              refine vl_nil ?_
              refine vif (fun hc48 => ?_) (fun hc48 => ?_)
              · -- yes
               exfalso; have hdead := hc48; simp at hdead <;> omega
              · -- no
               have hnkind_10 : ¬ x.kind = 10 := by simpa using hc48
               refine vc_skip ?_
               refine vc_then ?_
               refine vc_then ?_
               refine vc_region ?_
               refine vy a_move ?_
               refine vy a_not ?_
               refine vl_nil ?_
               refine vif (fun hc49 => ?_) (fun hc49 => ?_)
               · -- yes
                have hbad : _ = true := hc49
                refine vc_then ?_
                refine vc_region ?_
                refine vy a_assign ?_
                refine vy a_assign ?_
                refine vl_nil ?_
                refine vc_ret ?_
                refine fin ?_
                simp only [fitsL, fits, C.asD, and_true]
                all_goals (first | (rw [app_5 h5]; exact ⟨rfl, rfl⟩) | (rw [refApp_gone hl hx hp hgone]; exact ⟨rfl, rfl⟩) | (exfalso; have hrk := right_kind hx; omega) | (clear hW hRe hok2 hall hpe hal hR hA hok hAl hk; generalize at0 (wasL l x) = w at *; generalize at1 (wasL l x) = v at *; generalize s.2.2.2 = R at *; first | (refine app_16 (m := []) hgo ?_; clear hgo; unfold refA; simp_all; done) | (refine app_0 hgo ?_ ?_ <;> (clear hgo; unfold refA; simp_all; done))))
               · -- no
                have hgood : _ = false := hc49
                refine vc_skip ?_
                refine vc_then ?_
                refine vc_region ?_
                refine vy a_move ?_
                refine vy a_assign ?_
                refine vy a_assign ?_
                refine vl_nil ?_
                refine vc_ret ?_
                refine fin ?_
                simp only [fitsL, fits, C.asD, and_true]
                all_goals (first | (rw [app_5 h5]; exact ⟨rfl, rfl⟩) | (rw [refApp_gone hl hx hp hgone]; exact ⟨rfl, rfl⟩) | (exfalso; have hrk := right_kind hx; omega) | (clear hW hRe hok2 hall hpe hal hR hA hok hAl hk; generalize at0 (wasL l x) = w at *; generalize at1 (wasL l x) = v at *; generalize s.2.2.2 = R at *; first | (refine app_16 (m := []) hgo ?_; clear hgo; unfold refA; simp_all; done) | (refine app_0 hgo ?_ ?_ <;> (clear hgo; unfold refA; simp_all; done))))
         · -- no
          have hnkind_3 : ¬ x.kind = 3 := by simpa using hc43
          refine vc_skip ?_
          refine vc_then ?_
          refine vc_then ?_
          refine vc_region ?_
          first | refine vy (a_fr (hf := T.fo_30_0)) ?_ | refine vy (a_fa (hf := T.fo_30_0)) ?_
          first | refine vy (k_ldr T.ts_3) ?_ | refine vy (k_lda T.ts_3) ?_
          refine vy (a_bin (hr := by first | exact pr_add1 (by omega) | exact pr_mul (wrap64 _ (mul_bound (was_worth hl hall (by omega)) (factor_ok hx (by omega)))) | exact pr_eql | exact pr_eqs | exact pr_eqb Try.underlying3)) ?_
          refine vl_nil ?_
          refine vif (fun hc50 => ?_) (fun hc50 => ?_)
          · -- yes
           have hkkind_6 : x.kind = 6 := by simpa using hc50
           refine vc_then ?_
           refine vc_drawn0 T.mixed ?_
           refine qy a_move ?_
           refine qy (a_ix (hT := T.es_22) (h0 := by first | omega | decide) (hy := by first | exact map_at hp | exact fieldAt_ix hn | exact was_0 hW (by omega) | exact was_1 hW (by omega) | exact co6_0 (by omega) | exact co6_1 (by omega) | exact co_at (by omega) | exact co_0 (by omega))) ?_
           first | refine qy (a_fr (hf := T.fo_27_4)) ?_ | refine qy (a_fa (hf := T.fo_27_4)) ?_
           first | refine qy (k_ldr T.ts_2) ?_ | refine qy (k_lda T.ts_2) ?_
           first | refine qy (a_fr (hf := T.fo_30_4)) ?_ | refine qy (a_fa (hf := T.fo_30_4)) ?_
           first | refine qy (k_ldr T.ts_2) ?_ | refine qy (k_lda T.ts_2) ?_
           refine qy (a_bin (hr := by first | exact pr_add1 (by omega) | exact pr_mul (wrap64 _ (mul_bound (was_worth hl hall (by omega)) (factor_ok hx (by omega)))) | exact pr_mul (by first | exact wrap64 _ (by (first | omega | (simp only [List.length_map, List.length_append, List.length_nil, List.length_cons]; omega))) | rfl))) ?_
           refine qy a_assign ?_
           show _
           refine vc_then ?_
           refine vc_region ?_
           refine vy a_move ?_
           refine vy (a_ix (hT := T.es_22) (h0 := by first | omega | decide) (hy := by first | exact map_at hp | exact fieldAt_ix hn | exact was_0 hW (by omega) | exact was_1 hW (by omega) | exact co6_0 (by omega) | exact co6_1 (by omega) | exact co_at (by omega) | exact co_0 (by omega))) ?_
           first | refine vy (a_fr (hf := T.fo_27_1)) ?_ | refine vy (a_fa (hf := T.fo_27_1)) ?_
           first | refine vy (k_ldr T.ts_3) ?_ | refine vy (k_lda T.ts_3) ?_
           refine vy (a_bin (hr := by first | exact pr_add1 (by omega) | exact pr_mul (wrap64 _ (mul_bound (was_worth hl hall (by omega)) (factor_ok hx (by omega)))) | exact pr_eql | exact pr_eqs | exact pr_eqb Try.underlying3)) ?_
           refine vy a_move ?_
           refine vb 119 (fun hg51 => ?_) (fun hg51 => ?_)
           · -- guard yes
            refine vy a_move ?_
            refine vy (a_bin (hr := by first | exact pr_add1 (by omega) | exact pr_mul (wrap64 _ (mul_bound (was_worth hl hall (by omega)) (factor_ok hx (by omega)))) | exact pr_lss | exact pr_lts)) ?_
            refine vy a_pick ?_
            refine vy a_assign ?_
            refine vl_nil ?_
            refine vc_then ?_
            refine vc_drawn0 T.mixed ?_
            refine qy a_move ?_
            refine qy a_move ?_
            refine qy (a_ix (hT := T.es_40) (h0 := by first | omega | decide) (hy := by first | exact map_at hp | exact fieldAt_ix hn | exact was_0 hW (by omega) | exact was_1 hW (by omega) | exact co6_0 (by omega) | exact co6_1 (by omega) | exact co_at (by omega) | exact co_0 (by omega))) ?_
            first | refine qy (k_ldr T.ts_24) ?_ | refine qy (k_lda T.ts_24) ?_
            refine qy a_move ?_
            refine qy (a_ix (hT := T.es_22) (h0 := by first | omega | decide) (hy := by first | exact map_at hp | exact fieldAt_ix hn | exact was_0 hW (by omega) | exact was_1 hW (by omega) | exact co6_0 (by omega) | exact co6_1 (by omega) | exact co_at (by omega) | exact co_0 (by omega))) ?_
            first | refine qy (a_fr (hf := T.fo_27_4)) ?_ | refine qy (a_fa (hf := T.fo_27_4)) ?_
            first | refine qy (k_ldr T.ts_2) ?_ | refine qy (k_lda T.ts_2) ?_
            refine qy (a_build (hb := by first | rfl) (hr := by first | exact snoc_map (g := fD) | exact one_map (g := fD) | rfl)) ?_
            refine qy a_move ?_
            refine qy (a_call (hf := T.en_71) (hc := by first | exact refPut_any _ _ _ hok2 (was_ok ho hall (by omega)) | exact refPut_any _ x.field _ hok2 hx0.1 | exact refPut_any _ ⟨named x.at_ x.name, 1, noB, [], (at0 (wasL l x)).worth⟩ _ hok2 (Nat.zero_le _) | exact refPut_any _ ⟨named x.at_ x.other, 1, noB, [], (at0 (wasL l x)).worth * x.factor⟩ _ (okL_put hok2 (Nat.zero_le _)) (Nat.zero_le _) | exact refPut_any _ ⟨x.at_, 4, noB, [], 0⟩ _ hok2 (Nat.zero_le _) | exact refPut_any _ ⟨x.at_, 1, noB, [], (at0 (wasL l x)).worth⟩ _ hok2 (Nat.zero_le _) | exact refPut_any _ ⟨x.at_, 2, x.other, [], 0⟩ _ hok2 (Nat.zero_le _) | exact refPut_any _ ⟨x.at_, 3, x.other, froms x.back, 0⟩ _ hok2 (froms_ok hx0.2.2))) ?_
            refine qy a_move ?_
            refine qy a_ext ?_
            refine qy a_ext ?_
            refine qy a_assign ?_
            refine qy a_assign ?_
            show _
            refine vc_region ?_
            refine vy a_move ?_
            refine vy a_move ?_
            refine vy (a_ix (hT := T.es_40) (h0 := by first | omega | decide) (hy := by first | exact map_at hp | exact fieldAt_ix hn | exact was_0 hW (by omega) | exact was_1 hW (by omega) | exact co6_0 (by omega) | exact co6_1 (by omega) | exact co_at (by omega) | exact co_0 (by omega))) ?_
            first | refine vy (k_ldr T.ts_24) ?_ | refine vy (k_lda T.ts_24) ?_
            refine vy a_move ?_
            refine vy (a_build (hb := by first | rfl) (hr := by first | exact snoc_map (g := fD) | exact one_map (g := fD) | rfl)) ?_
            refine vy a_move ?_
            refine vy (a_call (hf := T.en_71) (hc := by first | exact refPut_any _ _ _ hok2 (was_ok ho hall (by omega)) | exact refPut_any _ x.field _ hok2 hx0.1 | exact refPut_any _ ⟨named x.at_ x.name, 1, noB, [], (at0 (wasL l x)).worth⟩ _ hok2 (Nat.zero_le _) | exact refPut_any _ ⟨named x.at_ x.other, 1, noB, [], (at0 (wasL l x)).worth * x.factor⟩ _ (okL_put hok2 (Nat.zero_le _)) (Nat.zero_le _) | exact refPut_any _ ⟨x.at_, 4, noB, [], 0⟩ _ hok2 (Nat.zero_le _) | exact refPut_any _ ⟨x.at_, 1, noB, [], (at0 (wasL l x)).worth⟩ _ hok2 (Nat.zero_le _) | exact refPut_any _ ⟨x.at_, 2, x.other, [], 0⟩ _ hok2 (Nat.zero_le _) | exact refPut_any _ ⟨x.at_, 3, x.other, froms x.back, 0⟩ _ hok2 (froms_ok hx0.2.2))) ?_
            refine vy a_move ?_
            refine vy a_ext ?_
            refine vy a_ext ?_
            refine vy a_assign ?_
            refine vy a_assign ?_
            refine vl_nil ?_
            refine vc_then ?_
            refine vc_then ?_
            refine vc_region ?_
            first | refine vy (a_fr (hf := T.fo_30_0)) ?_ | refine vy (a_fa (hf := T.fo_30_0)) ?_
            first | refine vy (k_ldr T.ts_3) ?_ | refine vy (k_lda T.ts_3) ?_
            refine vy (a_bin (hr := by first | exact pr_add1 (by omega) | exact pr_mul (wrap64 _ (mul_bound (was_worth hl hall (by omega)) (factor_ok hx (by omega)))) | exact pr_eql | exact pr_eqs | exact pr_eqb Try.underlying3)) ?_
            refine vl_nil ?_
            refine vif (fun hc52 => ?_) (fun hc52 => ?_)
            · -- yes
             exfalso; have hdead := hc52; simp at hdead <;> omega
            · -- no
             have hnkind_7 : ¬ x.kind = 7 := by simpa using hc52
             refine vc_skip ?_
             refine vc_then ?_
             refine vc_then ?_
             refine vc_region ?_
             first | refine vy (a_fr (hf := T.fo_30_0)) ?_ | refine vy (a_fa (hf := T.fo_30_0)) ?_
             first | refine vy (k_ldr T.ts_3) ?_ | refine vy (k_lda T.ts_3) ?_
             refine vy (a_bin (hr := by first | exact pr_add1 (by omega) | exact pr_mul (wrap64 _ (mul_bound (was_worth hl hall (by omega)) (factor_ok hx (by omega)))) | exact pr_eql | exact pr_eqs | exact pr_eqb Try.underlying3)) ?_
             refine vl_nil ?_
             refine vif (fun hc53 => ?_) (fun hc53 => ?_)
             · -- yes
              exfalso; have hdead := hc53; simp at hdead <;> omega
             · -- no
              have hnkind_8 : ¬ x.kind = 8 := by simpa using hc53
              refine vc_skip ?_
              refine vc_then ?_
              refine vc_then ?_
              refine vc_region ?_
              first | refine vy (a_fr (hf := T.fo_30_0)) ?_ | refine vy (a_fa (hf := T.fo_30_0)) ?_
              first | refine vy (k_ldr T.ts_3) ?_ | refine vy (k_lda T.ts_3) ?_
              refine vy (a_bin (hr := by first | exact pr_add1 (by omega) | exact pr_mul (wrap64 _ (mul_bound (was_worth hl hall (by omega)) (factor_ok hx (by omega)))) | exact pr_eql | exact pr_eqs | exact pr_eqb Try.underlying3)) ?_
              refine vl_nil ?_
              refine vif (fun hc54 => ?_) (fun hc54 => ?_)
              · -- yes
               exfalso; have hdead := hc54; simp at hdead <;> omega
              · -- no
               have hnkind_9 : ¬ x.kind = 9 := by simpa using hc54
               refine vc_skip ?_
               refine vc_then ?_
               refine vc_then ?_
               refine vc_region ?_
               first | refine vy (a_fr (hf := T.fo_30_0)) ?_ | refine vy (a_fa (hf := T.fo_30_0)) ?_
               first | refine vy (k_ldr T.ts_3) ?_ | refine vy (k_lda T.ts_3) ?_
               refine vy (a_bin (hr := by first | exact pr_add1 (by omega) | exact pr_mul (wrap64 _ (mul_bound (was_worth hl hall (by omega)) (factor_ok hx (by omega)))) | exact pr_eql | exact pr_eqs | exact pr_eqb Try.underlying3)) ?_
               refine vl_nil ?_
               refine vif (fun hc55 => ?_) (fun hc55 => ?_)
               · -- yes
                exfalso; have hdead := hc55; simp at hdead <;> omega
               · -- no
                have hnkind_10 : ¬ x.kind = 10 := by simpa using hc55
                refine vc_skip ?_
                refine vc_then ?_
                refine vc_then ?_
                refine vc_region ?_
                refine vy a_move ?_
                refine vy a_not ?_
                refine vl_nil ?_
                refine vif (fun hc56 => ?_) (fun hc56 => ?_)
                · -- yes
                 have hbad : _ = true := hc56
                 refine vc_then ?_
                 refine vc_region ?_
                 refine vy a_assign ?_
                 refine vy a_assign ?_
                 refine vl_nil ?_
                 refine vc_ret ?_
                 refine fin ?_
                 simp only [fitsL, fits, C.asD, and_true]
                 all_goals (first | (rw [app_5 h5]; exact ⟨rfl, rfl⟩) | (rw [refApp_gone hl hx hp hgone]; exact ⟨rfl, rfl⟩) | (exfalso; have hrk := right_kind hx; omega) | (clear hW hRe hok2 hall hpe hal hR hA hok hAl hk; generalize at0 (wasL l x) = w at *; generalize at1 (wasL l x) = v at *; generalize s.2.2.2 = R at *; first | (refine app_16 (m := []) hgo ?_; clear hgo; unfold refA; simp_all; done) | (refine app_0 hgo ?_ ?_ <;> (clear hgo; unfold refA; simp_all; done))))
                · -- no
                 have hgood : _ = false := hc56
                 refine vc_skip ?_
                 refine vc_then ?_
                 refine vc_region ?_
                 refine vy a_move ?_
                 refine vy a_assign ?_
                 refine vy a_assign ?_
                 refine vl_nil ?_
                 refine vc_ret ?_
                 refine fin ?_
                 simp only [fitsL, fits, C.asD, and_true]
                 all_goals (first | (rw [app_5 h5]; exact ⟨rfl, rfl⟩) | (rw [refApp_gone hl hx hp hgone]; exact ⟨rfl, rfl⟩) | (exfalso; have hrk := right_kind hx; omega) | (clear hW hRe hok2 hall hpe hal hR hA hok hAl hk; generalize at0 (wasL l x) = w at *; generalize at1 (wasL l x) = v at *; generalize s.2.2.2 = R at *; first | (refine app_16 (m := []) hgo ?_; clear hgo; unfold refA; simp_all; done) | (refine app_0 hgo ?_ ?_ <;> (clear hgo; unfold refA; simp_all; done))))
           · -- guard no
            refine vn ?_
            refine vn ?_
            refine vy a_pick ?_
            refine vy a_assign ?_
            refine vl_nil ?_
            refine vc_then ?_
            refine vc_drawn0 T.mixed ?_
            refine qy a_move ?_
            refine qy a_move ?_
            refine qy (a_ix (hT := T.es_40) (h0 := by first | omega | decide) (hy := by first | exact map_at hp | exact fieldAt_ix hn | exact was_0 hW (by omega) | exact was_1 hW (by omega) | exact co6_0 (by omega) | exact co6_1 (by omega) | exact co_at (by omega) | exact co_0 (by omega))) ?_
            first | refine qy (k_ldr T.ts_24) ?_ | refine qy (k_lda T.ts_24) ?_
            refine qy a_move ?_
            refine qy (a_ix (hT := T.es_22) (h0 := by first | omega | decide) (hy := by first | exact map_at hp | exact fieldAt_ix hn | exact was_0 hW (by omega) | exact was_1 hW (by omega) | exact co6_0 (by omega) | exact co6_1 (by omega) | exact co_at (by omega) | exact co_0 (by omega))) ?_
            first | refine qy (a_fr (hf := T.fo_27_4)) ?_ | refine qy (a_fa (hf := T.fo_27_4)) ?_
            first | refine qy (k_ldr T.ts_2) ?_ | refine qy (k_lda T.ts_2) ?_
            refine qy (a_build (hb := by first | rfl) (hr := by first | exact snoc_map (g := fD) | exact one_map (g := fD) | rfl)) ?_
            refine qy a_move ?_
            refine qy (a_call (hf := T.en_71) (hc := by first | exact refPut_any _ _ _ hok2 (was_ok ho hall (by omega)) | exact refPut_any _ x.field _ hok2 hx0.1 | exact refPut_any _ ⟨named x.at_ x.name, 1, noB, [], (at0 (wasL l x)).worth⟩ _ hok2 (Nat.zero_le _) | exact refPut_any _ ⟨named x.at_ x.other, 1, noB, [], (at0 (wasL l x)).worth * x.factor⟩ _ (okL_put hok2 (Nat.zero_le _)) (Nat.zero_le _) | exact refPut_any _ ⟨x.at_, 4, noB, [], 0⟩ _ hok2 (Nat.zero_le _) | exact refPut_any _ ⟨x.at_, 1, noB, [], (at0 (wasL l x)).worth⟩ _ hok2 (Nat.zero_le _) | exact refPut_any _ ⟨x.at_, 2, x.other, [], 0⟩ _ hok2 (Nat.zero_le _) | exact refPut_any _ ⟨x.at_, 3, x.other, froms x.back, 0⟩ _ hok2 (froms_ok hx0.2.2))) ?_
            refine qy a_move ?_
            refine qy a_ext ?_
            refine qy a_ext ?_
            refine qy a_assign ?_
            refine qy a_assign ?_
            show _
            refine vc_region ?_
            refine vy a_move ?_
            refine vy a_move ?_
            refine vy (a_ix (hT := T.es_40) (h0 := by first | omega | decide) (hy := by first | exact map_at hp | exact fieldAt_ix hn | exact was_0 hW (by omega) | exact was_1 hW (by omega) | exact co6_0 (by omega) | exact co6_1 (by omega) | exact co_at (by omega) | exact co_0 (by omega))) ?_
            first | refine vy (k_ldr T.ts_24) ?_ | refine vy (k_lda T.ts_24) ?_
            refine vy a_move ?_
            refine vy (a_build (hb := by first | rfl) (hr := by first | exact snoc_map (g := fD) | exact one_map (g := fD) | rfl)) ?_
            refine vy a_move ?_
            refine vy (a_call (hf := T.en_71) (hc := by first | exact refPut_any _ _ _ hok2 (was_ok ho hall (by omega)) | exact refPut_any _ x.field _ hok2 hx0.1 | exact refPut_any _ ⟨named x.at_ x.name, 1, noB, [], (at0 (wasL l x)).worth⟩ _ hok2 (Nat.zero_le _) | exact refPut_any _ ⟨named x.at_ x.other, 1, noB, [], (at0 (wasL l x)).worth * x.factor⟩ _ (okL_put hok2 (Nat.zero_le _)) (Nat.zero_le _) | exact refPut_any _ ⟨x.at_, 4, noB, [], 0⟩ _ hok2 (Nat.zero_le _) | exact refPut_any _ ⟨x.at_, 1, noB, [], (at0 (wasL l x)).worth⟩ _ hok2 (Nat.zero_le _) | exact refPut_any _ ⟨x.at_, 2, x.other, [], 0⟩ _ hok2 (Nat.zero_le _) | exact refPut_any _ ⟨x.at_, 3, x.other, froms x.back, 0⟩ _ hok2 (froms_ok hx0.2.2))) ?_
            refine vy a_move ?_
            refine vy a_ext ?_
            refine vy a_ext ?_
            refine vy a_assign ?_
            refine vy a_assign ?_
            refine vl_nil ?_
            refine vc_then ?_
            refine vc_then ?_
            refine vc_region ?_
            first | refine vy (a_fr (hf := T.fo_30_0)) ?_ | refine vy (a_fa (hf := T.fo_30_0)) ?_
            first | refine vy (k_ldr T.ts_3) ?_ | refine vy (k_lda T.ts_3) ?_
            refine vy (a_bin (hr := by first | exact pr_add1 (by omega) | exact pr_mul (wrap64 _ (mul_bound (was_worth hl hall (by omega)) (factor_ok hx (by omega)))) | exact pr_eql | exact pr_eqs | exact pr_eqb Try.underlying3)) ?_
            refine vl_nil ?_
            refine vif (fun hc57 => ?_) (fun hc57 => ?_)
            · -- yes
             exfalso; have hdead := hc57; simp at hdead <;> omega
            · -- no
             have hnkind_7 : ¬ x.kind = 7 := by simpa using hc57
             refine vc_skip ?_
             refine vc_then ?_
             refine vc_then ?_
             refine vc_region ?_
             first | refine vy (a_fr (hf := T.fo_30_0)) ?_ | refine vy (a_fa (hf := T.fo_30_0)) ?_
             first | refine vy (k_ldr T.ts_3) ?_ | refine vy (k_lda T.ts_3) ?_
             refine vy (a_bin (hr := by first | exact pr_add1 (by omega) | exact pr_mul (wrap64 _ (mul_bound (was_worth hl hall (by omega)) (factor_ok hx (by omega)))) | exact pr_eql | exact pr_eqs | exact pr_eqb Try.underlying3)) ?_
             refine vl_nil ?_
             refine vif (fun hc58 => ?_) (fun hc58 => ?_)
             · -- yes
              exfalso; have hdead := hc58; simp at hdead <;> omega
             · -- no
              have hnkind_8 : ¬ x.kind = 8 := by simpa using hc58
              refine vc_skip ?_
              refine vc_then ?_
              refine vc_then ?_
              refine vc_region ?_
              first | refine vy (a_fr (hf := T.fo_30_0)) ?_ | refine vy (a_fa (hf := T.fo_30_0)) ?_
              first | refine vy (k_ldr T.ts_3) ?_ | refine vy (k_lda T.ts_3) ?_
              refine vy (a_bin (hr := by first | exact pr_add1 (by omega) | exact pr_mul (wrap64 _ (mul_bound (was_worth hl hall (by omega)) (factor_ok hx (by omega)))) | exact pr_eql | exact pr_eqs | exact pr_eqb Try.underlying3)) ?_
              refine vl_nil ?_
              refine vif (fun hc59 => ?_) (fun hc59 => ?_)
              · -- yes
               exfalso; have hdead := hc59; simp at hdead <;> omega
              · -- no
               have hnkind_9 : ¬ x.kind = 9 := by simpa using hc59
               refine vc_skip ?_
               refine vc_then ?_
               refine vc_then ?_
               refine vc_region ?_
               first | refine vy (a_fr (hf := T.fo_30_0)) ?_ | refine vy (a_fa (hf := T.fo_30_0)) ?_
               first | refine vy (k_ldr T.ts_3) ?_ | refine vy (k_lda T.ts_3) ?_
               refine vy (a_bin (hr := by first | exact pr_add1 (by omega) | exact pr_mul (wrap64 _ (mul_bound (was_worth hl hall (by omega)) (factor_ok hx (by omega)))) | exact pr_eql | exact pr_eqs | exact pr_eqb Try.underlying3)) ?_
               refine vl_nil ?_
               refine vif (fun hc60 => ?_) (fun hc60 => ?_)
               · -- yes
                exfalso; have hdead := hc60; simp at hdead <;> omega
               · -- no
                have hnkind_10 : ¬ x.kind = 10 := by simpa using hc60
                refine vc_skip ?_
                refine vc_then ?_
                refine vc_then ?_
                refine vc_region ?_
                refine vy a_move ?_
                refine vy a_not ?_
                refine vl_nil ?_
                refine vif (fun hc61 => ?_) (fun hc61 => ?_)
                · -- yes
                 have hbad : _ = true := hc61
                 refine vc_then ?_
                 refine vc_region ?_
                 refine vy a_assign ?_
                 refine vy a_assign ?_
                 refine vl_nil ?_
                 refine vc_ret ?_
                 refine fin ?_
                 simp only [fitsL, fits, C.asD, and_true]
                 all_goals (first | (rw [app_5 h5]; exact ⟨rfl, rfl⟩) | (rw [refApp_gone hl hx hp hgone]; exact ⟨rfl, rfl⟩) | (exfalso; have hrk := right_kind hx; omega) | (clear hW hRe hok2 hall hpe hal hR hA hok hAl hk; generalize at0 (wasL l x) = w at *; generalize at1 (wasL l x) = v at *; generalize s.2.2.2 = R at *; first | (refine app_16 (m := []) hgo ?_; clear hgo; unfold refA; simp_all; done) | (refine app_0 hgo ?_ ?_ <;> (clear hgo; unfold refA; simp_all; done))))
                · -- no
                 have hgood : _ = false := hc61
                 refine vc_skip ?_
                 refine vc_then ?_
                 refine vc_region ?_
                 refine vy a_move ?_
                 refine vy a_assign ?_
                 refine vy a_assign ?_
                 refine vl_nil ?_
                 refine vc_ret ?_
                 refine fin ?_
                 simp only [fitsL, fits, C.asD, and_true]
                 all_goals (first | (rw [app_5 h5]; exact ⟨rfl, rfl⟩) | (rw [refApp_gone hl hx hp hgone]; exact ⟨rfl, rfl⟩) | (exfalso; have hrk := right_kind hx; omega) | (clear hW hRe hok2 hall hpe hal hR hA hok hAl hk; generalize at0 (wasL l x) = w at *; generalize at1 (wasL l x) = v at *; generalize s.2.2.2 = R at *; first | (refine app_16 (m := []) hgo ?_; clear hgo; unfold refA; simp_all; done) | (refine app_0 hgo ?_ ?_ <;> (clear hgo; unfold refA; simp_all; done))))
          · -- no
           have hnkind_6 : ¬ x.kind = 6 := by simpa using hc50
           refine vc_skip ?_
           refine vc_then ?_
           refine vc_then ?_
           refine vc_region ?_
           first | refine vy (a_fr (hf := T.fo_30_0)) ?_ | refine vy (a_fa (hf := T.fo_30_0)) ?_
           first | refine vy (k_ldr T.ts_3) ?_ | refine vy (k_lda T.ts_3) ?_
           refine vy (a_bin (hr := by first | exact pr_add1 (by omega) | exact pr_mul (wrap64 _ (mul_bound (was_worth hl hall (by omega)) (factor_ok hx (by omega)))) | exact pr_eql | exact pr_eqs | exact pr_eqb Try.underlying3)) ?_
           refine vl_nil ?_
           refine vif (fun hc62 => ?_) (fun hc62 => ?_)
           · -- yes
            have hkkind_7 : x.kind = 7 := by simpa using hc62
            refine vc_then ?_
            refine vc_drawn0 T.mixed ?_
            refine qy a_move ?_
            refine qy (a_ix (hT := T.es_22) (h0 := by first | omega | decide) (hy := by first | exact map_at hp | exact fieldAt_ix hn | exact was_0 hW (by omega) | exact was_1 hW (by omega) | exact co6_0 (by omega) | exact co6_1 (by omega) | exact co_at (by omega) | exact co_0 (by omega))) ?_
            first | refine qy (a_fr (hf := T.fo_27_1)) ?_ | refine qy (a_fa (hf := T.fo_27_1)) ?_
            first | refine qy (k_ldr T.ts_3) ?_ | refine qy (k_lda T.ts_3) ?_
            refine qy (a_bin (hr := by first | exact pr_add1 (by omega) | exact pr_mul (wrap64 _ (mul_bound (was_worth hl hall (by omega)) (factor_ok hx (by omega)))) | exact pr_eql | exact pr_eqs | exact pr_eqb Try.underlying3)) ?_
            refine qy a_move ?_
            refine qb 156 (fun hg63 => ?_) (fun hg63 => ?_)
            · -- guard yes
             refine qy a_move ?_
             refine qy (a_ix (hT := T.es_22) (h0 := by first | omega | decide) (hy := by first | exact map_at hp | exact fieldAt_ix hn | exact was_0 hW (by omega) | exact was_1 hW (by omega) | exact co6_0 (by omega) | exact co6_1 (by omega) | exact co_at (by omega) | exact co_0 (by omega))) ?_
             first | refine qy (a_fr (hf := T.fo_27_2)) ?_ | refine qy (a_fa (hf := T.fo_27_2)) ?_
             first | refine qy (k_ldr T.ts_9) ?_ | refine qy (k_lda T.ts_9) ?_
             first | refine qy (a_fr (hf := T.fo_30_3)) ?_ | refine qy (a_fa (hf := T.fo_30_3)) ?_
             first | refine qy (k_ldr T.ts_9) ?_ | refine qy (k_lda T.ts_9) ?_
             refine qy (a_bin (hr := by first | exact pr_add1 (by omega) | exact pr_mul (wrap64 _ (mul_bound (was_worth hl hall (by omega)) (factor_ok hx (by omega)))) | exact pr_eql | exact pr_eqs | exact pr_eqb Try.underlying9)) ?_
             refine qy a_pick ?_
             refine qy a_assign ?_
             show _
             refine vc_region ?_
             refine vy a_move ?_
             refine vy a_move ?_
             refine vy (a_ix (hT := T.es_40) (h0 := by first | omega | decide) (hy := by first | exact map_at hp | exact fieldAt_ix hn | exact was_0 hW (by omega) | exact was_1 hW (by omega) | exact co6_0 (by omega) | exact co6_1 (by omega) | exact co_at (by omega) | exact co_0 (by omega))) ?_
             first | refine vy (k_ldr T.ts_24) ?_ | refine vy (k_lda T.ts_24) ?_
             refine vy (a_build (hb := by first | rfl) (hr := by first | exact snoc_map (g := fD) | exact one_map (g := fD) | rfl)) ?_
             refine vy a_move ?_
             refine vy (a_call (hf := T.en_71) (hc := by first | exact refPut_any _ _ _ hok2 (was_ok ho hall (by omega)) | exact refPut_any _ x.field _ hok2 hx0.1 | exact refPut_any _ ⟨named x.at_ x.name, 1, noB, [], (at0 (wasL l x)).worth⟩ _ hok2 (Nat.zero_le _) | exact refPut_any _ ⟨named x.at_ x.other, 1, noB, [], (at0 (wasL l x)).worth * x.factor⟩ _ (okL_put hok2 (Nat.zero_le _)) (Nat.zero_le _) | exact refPut_any _ ⟨x.at_, 4, noB, [], 0⟩ _ hok2 (Nat.zero_le _) | exact refPut_any _ ⟨x.at_, 1, noB, [], (at0 (wasL l x)).worth⟩ _ hok2 (Nat.zero_le _) | exact refPut_any _ ⟨x.at_, 2, x.other, [], 0⟩ _ hok2 (Nat.zero_le _) | exact refPut_any _ ⟨x.at_, 3, x.other, froms x.back, 0⟩ _ hok2 (froms_ok hx0.2.2))) ?_
             refine vy a_move ?_
             refine vy a_ext ?_
             refine vy a_ext ?_
             refine vy a_assign ?_
             refine vy a_assign ?_
             refine vl_nil ?_
             refine vc_then ?_
             refine vc_then ?_
             refine vc_region ?_
             first | refine vy (a_fr (hf := T.fo_30_0)) ?_ | refine vy (a_fa (hf := T.fo_30_0)) ?_
             first | refine vy (k_ldr T.ts_3) ?_ | refine vy (k_lda T.ts_3) ?_
             refine vy (a_bin (hr := by first | exact pr_add1 (by omega) | exact pr_mul (wrap64 _ (mul_bound (was_worth hl hall (by omega)) (factor_ok hx (by omega)))) | exact pr_eql | exact pr_eqs | exact pr_eqb Try.underlying3)) ?_
             refine vl_nil ?_
             refine vif (fun hc64 => ?_) (fun hc64 => ?_)
             · -- yes
              exfalso; have hdead := hc64; simp at hdead <;> omega
             · -- no
              have hnkind_8 : ¬ x.kind = 8 := by simpa using hc64
              refine vc_skip ?_
              refine vc_then ?_
              refine vc_then ?_
              refine vc_region ?_
              first | refine vy (a_fr (hf := T.fo_30_0)) ?_ | refine vy (a_fa (hf := T.fo_30_0)) ?_
              first | refine vy (k_ldr T.ts_3) ?_ | refine vy (k_lda T.ts_3) ?_
              refine vy (a_bin (hr := by first | exact pr_add1 (by omega) | exact pr_mul (wrap64 _ (mul_bound (was_worth hl hall (by omega)) (factor_ok hx (by omega)))) | exact pr_eql | exact pr_eqs | exact pr_eqb Try.underlying3)) ?_
              refine vl_nil ?_
              refine vif (fun hc65 => ?_) (fun hc65 => ?_)
              · -- yes
               exfalso; have hdead := hc65; simp at hdead <;> omega
              · -- no
               have hnkind_9 : ¬ x.kind = 9 := by simpa using hc65
               refine vc_skip ?_
               refine vc_then ?_
               refine vc_then ?_
               refine vc_region ?_
               first | refine vy (a_fr (hf := T.fo_30_0)) ?_ | refine vy (a_fa (hf := T.fo_30_0)) ?_
               first | refine vy (k_ldr T.ts_3) ?_ | refine vy (k_lda T.ts_3) ?_
               refine vy (a_bin (hr := by first | exact pr_add1 (by omega) | exact pr_mul (wrap64 _ (mul_bound (was_worth hl hall (by omega)) (factor_ok hx (by omega)))) | exact pr_eql | exact pr_eqs | exact pr_eqb Try.underlying3)) ?_
               refine vl_nil ?_
               refine vif (fun hc66 => ?_) (fun hc66 => ?_)
               · -- yes
                exfalso; have hdead := hc66; simp at hdead <;> omega
               · -- no
                have hnkind_10 : ¬ x.kind = 10 := by simpa using hc66
                refine vc_skip ?_
                refine vc_then ?_
                refine vc_then ?_
                refine vc_region ?_
                refine vy a_move ?_
                refine vy a_not ?_
                refine vl_nil ?_
                refine vif (fun hc67 => ?_) (fun hc67 => ?_)
                · -- yes
                 have hbad : _ = true := hc67
                 refine vc_then ?_
                 refine vc_region ?_
                 refine vy a_assign ?_
                 refine vy a_assign ?_
                 refine vl_nil ?_
                 refine vc_ret ?_
                 refine fin ?_
                 simp only [fitsL, fits, C.asD, and_true]
                 all_goals (first | (rw [app_5 h5]; exact ⟨rfl, rfl⟩) | (rw [refApp_gone hl hx hp hgone]; exact ⟨rfl, rfl⟩) | (exfalso; have hrk := right_kind hx; omega) | (clear hW hRe hok2 hall hpe hal hR hA hok hAl hk; generalize at0 (wasL l x) = w at *; generalize at1 (wasL l x) = v at *; generalize s.2.2.2 = R at *; first | (refine app_16 (m := []) hgo ?_; clear hgo; unfold refA; simp_all; done) | (refine app_0 hgo ?_ ?_ <;> (clear hgo; unfold refA; simp_all; done))))
                · -- no
                 have hgood : _ = false := hc67
                 refine vc_skip ?_
                 refine vc_then ?_
                 refine vc_region ?_
                 refine vy a_move ?_
                 refine vy a_assign ?_
                 refine vy a_assign ?_
                 refine vl_nil ?_
                 refine vc_ret ?_
                 refine fin ?_
                 simp only [fitsL, fits, C.asD, and_true]
                 all_goals (first | (rw [app_5 h5]; exact ⟨rfl, rfl⟩) | (rw [refApp_gone hl hx hp hgone]; exact ⟨rfl, rfl⟩) | (exfalso; have hrk := right_kind hx; omega) | (clear hW hRe hok2 hall hpe hal hR hA hok hAl hk; generalize at0 (wasL l x) = w at *; generalize at1 (wasL l x) = v at *; generalize s.2.2.2 = R at *; first | (refine app_16 (m := []) hgo ?_; clear hgo; unfold refA; simp_all; done) | (refine app_0 hgo ?_ ?_ <;> (clear hgo; unfold refA; simp_all; done))))
            · -- guard no
             refine qn ?_
             refine qn ?_
             refine qn ?_
             refine qn ?_
             refine qn ?_
             refine qn ?_
             refine qn ?_
             refine qy a_pick ?_
             refine qy a_assign ?_
             show _
             refine vc_region ?_
             refine vy a_move ?_
             refine vy a_move ?_
             refine vy (a_ix (hT := T.es_40) (h0 := by first | omega | decide) (hy := by first | exact map_at hp | exact fieldAt_ix hn | exact was_0 hW (by omega) | exact was_1 hW (by omega) | exact co6_0 (by omega) | exact co6_1 (by omega) | exact co_at (by omega) | exact co_0 (by omega))) ?_
             first | refine vy (k_ldr T.ts_24) ?_ | refine vy (k_lda T.ts_24) ?_
             refine vy (a_build (hb := by first | rfl) (hr := by first | exact snoc_map (g := fD) | exact one_map (g := fD) | rfl)) ?_
             refine vy a_move ?_
             refine vy (a_call (hf := T.en_71) (hc := by first | exact refPut_any _ _ _ hok2 (was_ok ho hall (by omega)) | exact refPut_any _ x.field _ hok2 hx0.1 | exact refPut_any _ ⟨named x.at_ x.name, 1, noB, [], (at0 (wasL l x)).worth⟩ _ hok2 (Nat.zero_le _) | exact refPut_any _ ⟨named x.at_ x.other, 1, noB, [], (at0 (wasL l x)).worth * x.factor⟩ _ (okL_put hok2 (Nat.zero_le _)) (Nat.zero_le _) | exact refPut_any _ ⟨x.at_, 4, noB, [], 0⟩ _ hok2 (Nat.zero_le _) | exact refPut_any _ ⟨x.at_, 1, noB, [], (at0 (wasL l x)).worth⟩ _ hok2 (Nat.zero_le _) | exact refPut_any _ ⟨x.at_, 2, x.other, [], 0⟩ _ hok2 (Nat.zero_le _) | exact refPut_any _ ⟨x.at_, 3, x.other, froms x.back, 0⟩ _ hok2 (froms_ok hx0.2.2))) ?_
             refine vy a_move ?_
             refine vy a_ext ?_
             refine vy a_ext ?_
             refine vy a_assign ?_
             refine vy a_assign ?_
             refine vl_nil ?_
             refine vc_then ?_
             refine vc_then ?_
             refine vc_region ?_
             first | refine vy (a_fr (hf := T.fo_30_0)) ?_ | refine vy (a_fa (hf := T.fo_30_0)) ?_
             first | refine vy (k_ldr T.ts_3) ?_ | refine vy (k_lda T.ts_3) ?_
             refine vy (a_bin (hr := by first | exact pr_add1 (by omega) | exact pr_mul (wrap64 _ (mul_bound (was_worth hl hall (by omega)) (factor_ok hx (by omega)))) | exact pr_eql | exact pr_eqs | exact pr_eqb Try.underlying3)) ?_
             refine vl_nil ?_
             refine vif (fun hc68 => ?_) (fun hc68 => ?_)
             · -- yes
              exfalso; have hdead := hc68; simp at hdead <;> omega
             · -- no
              have hnkind_8 : ¬ x.kind = 8 := by simpa using hc68
              refine vc_skip ?_
              refine vc_then ?_
              refine vc_then ?_
              refine vc_region ?_
              first | refine vy (a_fr (hf := T.fo_30_0)) ?_ | refine vy (a_fa (hf := T.fo_30_0)) ?_
              first | refine vy (k_ldr T.ts_3) ?_ | refine vy (k_lda T.ts_3) ?_
              refine vy (a_bin (hr := by first | exact pr_add1 (by omega) | exact pr_mul (wrap64 _ (mul_bound (was_worth hl hall (by omega)) (factor_ok hx (by omega)))) | exact pr_eql | exact pr_eqs | exact pr_eqb Try.underlying3)) ?_
              refine vl_nil ?_
              refine vif (fun hc69 => ?_) (fun hc69 => ?_)
              · -- yes
               exfalso; have hdead := hc69; simp at hdead <;> omega
              · -- no
               have hnkind_9 : ¬ x.kind = 9 := by simpa using hc69
               refine vc_skip ?_
               refine vc_then ?_
               refine vc_then ?_
               refine vc_region ?_
               first | refine vy (a_fr (hf := T.fo_30_0)) ?_ | refine vy (a_fa (hf := T.fo_30_0)) ?_
               first | refine vy (k_ldr T.ts_3) ?_ | refine vy (k_lda T.ts_3) ?_
               refine vy (a_bin (hr := by first | exact pr_add1 (by omega) | exact pr_mul (wrap64 _ (mul_bound (was_worth hl hall (by omega)) (factor_ok hx (by omega)))) | exact pr_eql | exact pr_eqs | exact pr_eqb Try.underlying3)) ?_
               refine vl_nil ?_
               refine vif (fun hc70 => ?_) (fun hc70 => ?_)
               · -- yes
                exfalso; have hdead := hc70; simp at hdead <;> omega
               · -- no
                have hnkind_10 : ¬ x.kind = 10 := by simpa using hc70
                refine vc_skip ?_
                refine vc_then ?_
                refine vc_then ?_
                refine vc_region ?_
                refine vy a_move ?_
                refine vy a_not ?_
                refine vl_nil ?_
                refine vif (fun hc71 => ?_) (fun hc71 => ?_)
                · -- yes
                 have hbad : _ = true := hc71
                 refine vc_then ?_
                 refine vc_region ?_
                 refine vy a_assign ?_
                 refine vy a_assign ?_
                 refine vl_nil ?_
                 refine vc_ret ?_
                 refine fin ?_
                 simp only [fitsL, fits, C.asD, and_true]
                 all_goals (first | (rw [app_5 h5]; exact ⟨rfl, rfl⟩) | (rw [refApp_gone hl hx hp hgone]; exact ⟨rfl, rfl⟩) | (exfalso; have hrk := right_kind hx; omega) | (clear hW hRe hok2 hall hpe hal hR hA hok hAl hk; generalize at0 (wasL l x) = w at *; generalize at1 (wasL l x) = v at *; generalize s.2.2.2 = R at *; first | (refine app_16 (m := []) hgo ?_; clear hgo; unfold refA; simp_all; done) | (refine app_0 hgo ?_ ?_ <;> (clear hgo; unfold refA; simp_all; done))))
                · -- no
                 have hgood : _ = false := hc71
                 refine vc_skip ?_
                 refine vc_then ?_
                 refine vc_region ?_
                 refine vy a_move ?_
                 refine vy a_assign ?_
                 refine vy a_assign ?_
                 refine vl_nil ?_
                 refine vc_ret ?_
                 refine fin ?_
                 simp only [fitsL, fits, C.asD, and_true]
                 all_goals (first | (rw [app_5 h5]; exact ⟨rfl, rfl⟩) | (rw [refApp_gone hl hx hp hgone]; exact ⟨rfl, rfl⟩) | (exfalso; have hrk := right_kind hx; omega) | (clear hW hRe hok2 hall hpe hal hR hA hok hAl hk; generalize at0 (wasL l x) = w at *; generalize at1 (wasL l x) = v at *; generalize s.2.2.2 = R at *; first | (refine app_16 (m := []) hgo ?_; clear hgo; unfold refA; simp_all; done) | (refine app_0 hgo ?_ ?_ <;> (clear hgo; unfold refA; simp_all; done))))
           · -- no
            have hnkind_7 : ¬ x.kind = 7 := by simpa using hc62
            refine vc_skip ?_
            refine vc_then ?_
            refine vc_then ?_
            refine vc_region ?_
            first | refine vy (a_fr (hf := T.fo_30_0)) ?_ | refine vy (a_fa (hf := T.fo_30_0)) ?_
            first | refine vy (k_ldr T.ts_3) ?_ | refine vy (k_lda T.ts_3) ?_
            refine vy (a_bin (hr := by first | exact pr_add1 (by omega) | exact pr_mul (wrap64 _ (mul_bound (was_worth hl hall (by omega)) (factor_ok hx (by omega)))) | exact pr_eql | exact pr_eqs | exact pr_eqb Try.underlying3)) ?_
            refine vl_nil ?_
            refine vif (fun hc72 => ?_) (fun hc72 => ?_)
            · -- yes
             have hkkind_8 : x.kind = 8 := by simpa using hc72
             refine vc_then ?_
             refine vc_drawn0 T.mixed ?_
             refine qy a_move ?_
             refine qy (a_ix (hT := T.es_22) (h0 := by first | omega | decide) (hy := by first | exact map_at hp | exact fieldAt_ix hn | exact was_0 hW (by omega) | exact was_1 hW (by omega) | exact co6_0 (by omega) | exact co6_1 (by omega) | exact co_at (by omega) | exact co_0 (by omega))) ?_
             first | refine qy (a_fr (hf := T.fo_27_1)) ?_ | refine qy (a_fa (hf := T.fo_27_1)) ?_
             first | refine qy (k_ldr T.ts_3) ?_ | refine qy (k_lda T.ts_3) ?_
             refine qy (a_bin (hr := by first | exact pr_add1 (by omega) | exact pr_mul (wrap64 _ (mul_bound (was_worth hl hall (by omega)) (factor_ok hx (by omega)))) | exact pr_eql | exact pr_eqs | exact pr_eqb Try.underlying3)) ?_
             refine qy a_move ?_
             refine qb 183 (fun hg73 => ?_) (fun hg73 => ?_)
             · -- guard yes
              refine qy a_move ?_
              refine qy (a_ix (hT := T.es_22) (h0 := by first | omega | decide) (hy := by first | exact map_at hp | exact fieldAt_ix hn | exact was_0 hW (by omega) | exact was_1 hW (by omega) | exact co6_0 (by omega) | exact co6_1 (by omega) | exact co_at (by omega) | exact co_0 (by omega))) ?_
              first | refine qy (a_fr (hf := T.fo_27_2)) ?_ | refine qy (a_fa (hf := T.fo_27_2)) ?_
              first | refine qy (k_ldr T.ts_9) ?_ | refine qy (k_lda T.ts_9) ?_
              first | refine qy (a_fr (hf := T.fo_30_2)) ?_ | refine qy (a_fa (hf := T.fo_30_2)) ?_
              first | refine qy (k_ldr T.ts_9) ?_ | refine qy (k_lda T.ts_9) ?_
              refine qy (a_bin (hr := by first | exact pr_add1 (by omega) | exact pr_mul (wrap64 _ (mul_bound (was_worth hl hall (by omega)) (factor_ok hx (by omega)))) | exact pr_eql | exact pr_eqs | exact pr_eqb Try.underlying9)) ?_
              refine qy a_pick ?_
              refine qy a_move ?_
              refine qb 192 (fun hg74 => ?_) (fun hg74 => ?_)
              · -- guard yes
               refine qy a_move ?_
               refine qy (a_ix (hT := T.es_22) (h0 := by first | omega | decide) (hy := by first | exact map_at hp | exact fieldAt_ix hn | exact was_0 hW (by omega) | exact was_1 hW (by omega) | exact co6_0 (by omega) | exact co6_1 (by omega) | exact co_at (by omega) | exact co_0 (by omega))) ?_
               first | refine qy (a_fr (hf := T.fo_27_3)) ?_ | refine qy (a_fa (hf := T.fo_27_3)) ?_
               first | refine qy (k_ldr T.ts_25) ?_ | refine qy (k_lda T.ts_25) ?_
               first | refine qy (a_fr (hf := T.fo_30_6)) ?_ | refine qy (a_fa (hf := T.fo_30_6)) ?_
               first | refine qy (k_ldr T.ts_28) ?_ | refine qy (k_lda T.ts_28) ?_
               refine qy (a_call (hf := T.en_74) (hc := by exact refFroms_any _ (by first | exact hx0.2.1 | exact hx0.2.2))) ?_
               refine qy (a_call (hf := T.en_73) (hc := by exact refSames_any _ _ (was_ok ho hall (by omega)))) ?_
               refine qy a_pick ?_
               refine qy a_assign ?_
               show _
               refine vc_drawn0 T.mixed ?_
               refine qy a_move ?_
               refine qy a_move ?_
               refine qy (a_ix (hT := T.es_40) (h0 := by first | omega | decide) (hy := by first | exact map_at hp | exact fieldAt_ix hn | exact was_0 hW (by omega) | exact was_1 hW (by omega) | exact co6_0 (by omega) | exact co6_1 (by omega) | exact co_at (by omega) | exact co_0 (by omega))) ?_
               first | refine qy (k_ldr T.ts_24) ?_ | refine qy (k_lda T.ts_24) ?_
               first | refine qy (a_fr (hf := T.fo_30_3)) ?_ | refine qy (a_fa (hf := T.fo_30_3)) ?_
               first | refine qy (k_ldr T.ts_9) ?_ | refine qy (k_lda T.ts_9) ?_
               first | refine qy (a_fr (hf := T.fo_30_7)) ?_ | refine qy (a_fa (hf := T.fo_30_7)) ?_
               first | refine qy (k_ldr T.ts_28) ?_ | refine qy (k_lda T.ts_28) ?_
               refine qy (a_call (hf := T.en_74) (hc := by exact refFroms_any _ (by first | exact hx0.2.1 | exact hx0.2.2))) ?_
               refine qy (a_build (hb := by first | rfl) (hr := by first | exact snoc_map (g := fD) | exact one_map (g := fD) | rfl)) ?_
               refine qy a_move ?_
               refine qy (a_call (hf := T.en_71) (hc := by first | exact refPut_any _ _ _ hok2 (was_ok ho hall (by omega)) | exact refPut_any _ x.field _ hok2 hx0.1 | exact refPut_any _ ⟨named x.at_ x.name, 1, noB, [], (at0 (wasL l x)).worth⟩ _ hok2 (Nat.zero_le _) | exact refPut_any _ ⟨named x.at_ x.other, 1, noB, [], (at0 (wasL l x)).worth * x.factor⟩ _ (okL_put hok2 (Nat.zero_le _)) (Nat.zero_le _) | exact refPut_any _ ⟨x.at_, 4, noB, [], 0⟩ _ hok2 (Nat.zero_le _) | exact refPut_any _ ⟨x.at_, 1, noB, [], (at0 (wasL l x)).worth⟩ _ hok2 (Nat.zero_le _) | exact refPut_any _ ⟨x.at_, 2, x.other, [], 0⟩ _ hok2 (Nat.zero_le _) | exact refPut_any _ ⟨x.at_, 3, x.other, froms x.back, 0⟩ _ hok2 (froms_ok hx0.2.2))) ?_
               refine qy a_move ?_
               refine qy a_ext ?_
               refine qy a_ext ?_
               refine qy a_assign ?_
               refine qy a_assign ?_
               show _
               refine vc_then ?_
               refine vc_then ?_
               refine vc_region ?_
               first | refine vy (a_fr (hf := T.fo_30_0)) ?_ | refine vy (a_fa (hf := T.fo_30_0)) ?_
               first | refine vy (k_ldr T.ts_3) ?_ | refine vy (k_lda T.ts_3) ?_
               refine vy (a_bin (hr := by first | exact pr_add1 (by omega) | exact pr_mul (wrap64 _ (mul_bound (was_worth hl hall (by omega)) (factor_ok hx (by omega)))) | exact pr_eql | exact pr_eqs | exact pr_eqb Try.underlying3)) ?_
               refine vl_nil ?_
               refine vif (fun hc75 => ?_) (fun hc75 => ?_)
               · -- yes
                exfalso; have hdead := hc75; simp at hdead <;> omega
               · -- no
                have hnkind_9 : ¬ x.kind = 9 := by simpa using hc75
                refine vc_skip ?_
                refine vc_then ?_
                refine vc_then ?_
                refine vc_region ?_
                first | refine vy (a_fr (hf := T.fo_30_0)) ?_ | refine vy (a_fa (hf := T.fo_30_0)) ?_
                first | refine vy (k_ldr T.ts_3) ?_ | refine vy (k_lda T.ts_3) ?_
                refine vy (a_bin (hr := by first | exact pr_add1 (by omega) | exact pr_mul (wrap64 _ (mul_bound (was_worth hl hall (by omega)) (factor_ok hx (by omega)))) | exact pr_eql | exact pr_eqs | exact pr_eqb Try.underlying3)) ?_
                refine vl_nil ?_
                refine vif (fun hc76 => ?_) (fun hc76 => ?_)
                · -- yes
                 exfalso; have hdead := hc76; simp at hdead <;> omega
                · -- no
                 have hnkind_10 : ¬ x.kind = 10 := by simpa using hc76
                 refine vc_skip ?_
                 refine vc_then ?_
                 refine vc_then ?_
                 refine vc_region ?_
                 refine vy a_move ?_
                 refine vy a_not ?_
                 refine vl_nil ?_
                 refine vif (fun hc77 => ?_) (fun hc77 => ?_)
                 · -- yes
                  have hbad : _ = true := hc77
                  refine vc_then ?_
                  refine vc_region ?_
                  refine vy a_assign ?_
                  refine vy a_assign ?_
                  refine vl_nil ?_
                  refine vc_ret ?_
                  refine fin ?_
                  simp only [fitsL, fits, C.asD, and_true]
                  all_goals (first | (rw [app_5 h5]; exact ⟨rfl, rfl⟩) | (rw [refApp_gone hl hx hp hgone]; exact ⟨rfl, rfl⟩) | (exfalso; have hrk := right_kind hx; omega) | (clear hW hRe hok2 hall hpe hal hR hA hok hAl hk; generalize at0 (wasL l x) = w at *; generalize at1 (wasL l x) = v at *; generalize s.2.2.2 = R at *; first | (refine app_16 (m := []) hgo ?_; clear hgo; unfold refA; simp_all; done) | (refine app_0 hgo ?_ ?_ <;> (clear hgo; unfold refA; simp_all; done))))
                 · -- no
                  have hgood : _ = false := hc77
                  refine vc_skip ?_
                  refine vc_then ?_
                  refine vc_region ?_
                  refine vy a_move ?_
                  refine vy a_assign ?_
                  refine vy a_assign ?_
                  refine vl_nil ?_
                  refine vc_ret ?_
                  refine fin ?_
                  simp only [fitsL, fits, C.asD, and_true]
                  all_goals (first | (rw [app_5 h5]; exact ⟨rfl, rfl⟩) | (rw [refApp_gone hl hx hp hgone]; exact ⟨rfl, rfl⟩) | (exfalso; have hrk := right_kind hx; omega) | (clear hW hRe hok2 hall hpe hal hR hA hok hAl hk; generalize at0 (wasL l x) = w at *; generalize at1 (wasL l x) = v at *; generalize s.2.2.2 = R at *; first | (refine app_16 (m := []) hgo ?_; clear hgo; unfold refA; simp_all; done) | (refine app_0 hgo ?_ ?_ <;> (clear hgo; unfold refA; simp_all; done))))
              · -- guard no
               refine qn ?_
               refine qn ?_
               refine qn ?_
               refine qn ?_
               refine qn ?_
               refine qn ?_
               refine qn ?_
               refine qn ?_
               refine qy a_pick ?_
               refine qy a_assign ?_
               show _
               refine vc_drawn0 T.mixed ?_
               refine qy a_move ?_
               refine qy a_move ?_
               refine qy (a_ix (hT := T.es_40) (h0 := by first | omega | decide) (hy := by first | exact map_at hp | exact fieldAt_ix hn | exact was_0 hW (by omega) | exact was_1 hW (by omega) | exact co6_0 (by omega) | exact co6_1 (by omega) | exact co_at (by omega) | exact co_0 (by omega))) ?_
               first | refine qy (k_ldr T.ts_24) ?_ | refine qy (k_lda T.ts_24) ?_
               first | refine qy (a_fr (hf := T.fo_30_3)) ?_ | refine qy (a_fa (hf := T.fo_30_3)) ?_
               first | refine qy (k_ldr T.ts_9) ?_ | refine qy (k_lda T.ts_9) ?_
               first | refine qy (a_fr (hf := T.fo_30_7)) ?_ | refine qy (a_fa (hf := T.fo_30_7)) ?_
               first | refine qy (k_ldr T.ts_28) ?_ | refine qy (k_lda T.ts_28) ?_
               refine qy (a_call (hf := T.en_74) (hc := by exact refFroms_any _ (by first | exact hx0.2.1 | exact hx0.2.2))) ?_
               refine qy (a_build (hb := by first | rfl) (hr := by first | exact snoc_map (g := fD) | exact one_map (g := fD) | rfl)) ?_
               refine qy a_move ?_
               refine qy (a_call (hf := T.en_71) (hc := by first | exact refPut_any _ _ _ hok2 (was_ok ho hall (by omega)) | exact refPut_any _ x.field _ hok2 hx0.1 | exact refPut_any _ ⟨named x.at_ x.name, 1, noB, [], (at0 (wasL l x)).worth⟩ _ hok2 (Nat.zero_le _) | exact refPut_any _ ⟨named x.at_ x.other, 1, noB, [], (at0 (wasL l x)).worth * x.factor⟩ _ (okL_put hok2 (Nat.zero_le _)) (Nat.zero_le _) | exact refPut_any _ ⟨x.at_, 4, noB, [], 0⟩ _ hok2 (Nat.zero_le _) | exact refPut_any _ ⟨x.at_, 1, noB, [], (at0 (wasL l x)).worth⟩ _ hok2 (Nat.zero_le _) | exact refPut_any _ ⟨x.at_, 2, x.other, [], 0⟩ _ hok2 (Nat.zero_le _) | exact refPut_any _ ⟨x.at_, 3, x.other, froms x.back, 0⟩ _ hok2 (froms_ok hx0.2.2))) ?_
               refine qy a_move ?_
               refine qy a_ext ?_
               refine qy a_ext ?_
               refine qy a_assign ?_
               refine qy a_assign ?_
               show _
               refine vc_then ?_
               refine vc_then ?_
               refine vc_region ?_
               first | refine vy (a_fr (hf := T.fo_30_0)) ?_ | refine vy (a_fa (hf := T.fo_30_0)) ?_
               first | refine vy (k_ldr T.ts_3) ?_ | refine vy (k_lda T.ts_3) ?_
               refine vy (a_bin (hr := by first | exact pr_add1 (by omega) | exact pr_mul (wrap64 _ (mul_bound (was_worth hl hall (by omega)) (factor_ok hx (by omega)))) | exact pr_eql | exact pr_eqs | exact pr_eqb Try.underlying3)) ?_
               refine vl_nil ?_
               refine vif (fun hc78 => ?_) (fun hc78 => ?_)
               · -- yes
                exfalso; have hdead := hc78; simp at hdead <;> omega
               · -- no
                have hnkind_9 : ¬ x.kind = 9 := by simpa using hc78
                refine vc_skip ?_
                refine vc_then ?_
                refine vc_then ?_
                refine vc_region ?_
                first | refine vy (a_fr (hf := T.fo_30_0)) ?_ | refine vy (a_fa (hf := T.fo_30_0)) ?_
                first | refine vy (k_ldr T.ts_3) ?_ | refine vy (k_lda T.ts_3) ?_
                refine vy (a_bin (hr := by first | exact pr_add1 (by omega) | exact pr_mul (wrap64 _ (mul_bound (was_worth hl hall (by omega)) (factor_ok hx (by omega)))) | exact pr_eql | exact pr_eqs | exact pr_eqb Try.underlying3)) ?_
                refine vl_nil ?_
                refine vif (fun hc79 => ?_) (fun hc79 => ?_)
                · -- yes
                 exfalso; have hdead := hc79; simp at hdead <;> omega
                · -- no
                 have hnkind_10 : ¬ x.kind = 10 := by simpa using hc79
                 refine vc_skip ?_
                 refine vc_then ?_
                 refine vc_then ?_
                 refine vc_region ?_
                 refine vy a_move ?_
                 refine vy a_not ?_
                 refine vl_nil ?_
                 refine vif (fun hc80 => ?_) (fun hc80 => ?_)
                 · -- yes
                  have hbad : _ = true := hc80
                  refine vc_then ?_
                  refine vc_region ?_
                  refine vy a_assign ?_
                  refine vy a_assign ?_
                  refine vl_nil ?_
                  refine vc_ret ?_
                  refine fin ?_
                  simp only [fitsL, fits, C.asD, and_true]
                  all_goals (first | (rw [app_5 h5]; exact ⟨rfl, rfl⟩) | (rw [refApp_gone hl hx hp hgone]; exact ⟨rfl, rfl⟩) | (exfalso; have hrk := right_kind hx; omega) | (clear hW hRe hok2 hall hpe hal hR hA hok hAl hk; generalize at0 (wasL l x) = w at *; generalize at1 (wasL l x) = v at *; generalize s.2.2.2 = R at *; first | (refine app_16 (m := []) hgo ?_; clear hgo; unfold refA; simp_all; done) | (refine app_0 hgo ?_ ?_ <;> (clear hgo; unfold refA; simp_all; done))))
                 · -- no
                  have hgood : _ = false := hc80
                  refine vc_skip ?_
                  refine vc_then ?_
                  refine vc_region ?_
                  refine vy a_move ?_
                  refine vy a_assign ?_
                  refine vy a_assign ?_
                  refine vl_nil ?_
                  refine vc_ret ?_
                  refine fin ?_
                  simp only [fitsL, fits, C.asD, and_true]
                  all_goals (first | (rw [app_5 h5]; exact ⟨rfl, rfl⟩) | (rw [refApp_gone hl hx hp hgone]; exact ⟨rfl, rfl⟩) | (exfalso; have hrk := right_kind hx; omega) | (clear hW hRe hok2 hall hpe hal hR hA hok hAl hk; generalize at0 (wasL l x) = w at *; generalize at1 (wasL l x) = v at *; generalize s.2.2.2 = R at *; first | (refine app_16 (m := []) hgo ?_; clear hgo; unfold refA; simp_all; done) | (refine app_0 hgo ?_ ?_ <;> (clear hgo; unfold refA; simp_all; done))))
             · -- guard no
              refine qn ?_
              refine qn ?_
              refine qn ?_
              refine qn ?_
              refine qn ?_
              refine qn ?_
              refine qn ?_
              refine qy a_pick ?_
              refine qy a_move ?_
              refine qn ?_
              refine qn ?_
              refine qn ?_
              refine qn ?_
              refine qn ?_
              refine qn ?_
              refine qn ?_
              refine qn ?_
              refine qy a_pick ?_
              refine qy a_assign ?_
              show _
              refine vc_drawn0 T.mixed ?_
              refine qy a_move ?_
              refine qy a_move ?_
              refine qy (a_ix (hT := T.es_40) (h0 := by first | omega | decide) (hy := by first | exact map_at hp | exact fieldAt_ix hn | exact was_0 hW (by omega) | exact was_1 hW (by omega) | exact co6_0 (by omega) | exact co6_1 (by omega) | exact co_at (by omega) | exact co_0 (by omega))) ?_
              first | refine qy (k_ldr T.ts_24) ?_ | refine qy (k_lda T.ts_24) ?_
              first | refine qy (a_fr (hf := T.fo_30_3)) ?_ | refine qy (a_fa (hf := T.fo_30_3)) ?_
              first | refine qy (k_ldr T.ts_9) ?_ | refine qy (k_lda T.ts_9) ?_
              first | refine qy (a_fr (hf := T.fo_30_7)) ?_ | refine qy (a_fa (hf := T.fo_30_7)) ?_
              first | refine qy (k_ldr T.ts_28) ?_ | refine qy (k_lda T.ts_28) ?_
              refine qy (a_call (hf := T.en_74) (hc := by exact refFroms_any _ (by first | exact hx0.2.1 | exact hx0.2.2))) ?_
              refine qy (a_build (hb := by first | rfl) (hr := by first | exact snoc_map (g := fD) | exact one_map (g := fD) | rfl)) ?_
              refine qy a_move ?_
              refine qy (a_call (hf := T.en_71) (hc := by first | exact refPut_any _ _ _ hok2 (was_ok ho hall (by omega)) | exact refPut_any _ x.field _ hok2 hx0.1 | exact refPut_any _ ⟨named x.at_ x.name, 1, noB, [], (at0 (wasL l x)).worth⟩ _ hok2 (Nat.zero_le _) | exact refPut_any _ ⟨named x.at_ x.other, 1, noB, [], (at0 (wasL l x)).worth * x.factor⟩ _ (okL_put hok2 (Nat.zero_le _)) (Nat.zero_le _) | exact refPut_any _ ⟨x.at_, 4, noB, [], 0⟩ _ hok2 (Nat.zero_le _) | exact refPut_any _ ⟨x.at_, 1, noB, [], (at0 (wasL l x)).worth⟩ _ hok2 (Nat.zero_le _) | exact refPut_any _ ⟨x.at_, 2, x.other, [], 0⟩ _ hok2 (Nat.zero_le _) | exact refPut_any _ ⟨x.at_, 3, x.other, froms x.back, 0⟩ _ hok2 (froms_ok hx0.2.2))) ?_
              refine qy a_move ?_
              refine qy a_ext ?_
              refine qy a_ext ?_
              refine qy a_assign ?_
              refine qy a_assign ?_
              show _
              refine vc_then ?_
              refine vc_then ?_
              refine vc_region ?_
              first | refine vy (a_fr (hf := T.fo_30_0)) ?_ | refine vy (a_fa (hf := T.fo_30_0)) ?_
              first | refine vy (k_ldr T.ts_3) ?_ | refine vy (k_lda T.ts_3) ?_
              refine vy (a_bin (hr := by first | exact pr_add1 (by omega) | exact pr_mul (wrap64 _ (mul_bound (was_worth hl hall (by omega)) (factor_ok hx (by omega)))) | exact pr_eql | exact pr_eqs | exact pr_eqb Try.underlying3)) ?_
              refine vl_nil ?_
              refine vif (fun hc81 => ?_) (fun hc81 => ?_)
              · -- yes
               exfalso; have hdead := hc81; simp at hdead <;> omega
              · -- no
               have hnkind_9 : ¬ x.kind = 9 := by simpa using hc81
               refine vc_skip ?_
               refine vc_then ?_
               refine vc_then ?_
               refine vc_region ?_
               first | refine vy (a_fr (hf := T.fo_30_0)) ?_ | refine vy (a_fa (hf := T.fo_30_0)) ?_
               first | refine vy (k_ldr T.ts_3) ?_ | refine vy (k_lda T.ts_3) ?_
               refine vy (a_bin (hr := by first | exact pr_add1 (by omega) | exact pr_mul (wrap64 _ (mul_bound (was_worth hl hall (by omega)) (factor_ok hx (by omega)))) | exact pr_eql | exact pr_eqs | exact pr_eqb Try.underlying3)) ?_
               refine vl_nil ?_
               refine vif (fun hc82 => ?_) (fun hc82 => ?_)
               · -- yes
                exfalso; have hdead := hc82; simp at hdead <;> omega
               · -- no
                have hnkind_10 : ¬ x.kind = 10 := by simpa using hc82
                refine vc_skip ?_
                refine vc_then ?_
                refine vc_then ?_
                refine vc_region ?_
                refine vy a_move ?_
                refine vy a_not ?_
                refine vl_nil ?_
                refine vif (fun hc83 => ?_) (fun hc83 => ?_)
                · -- yes
                 have hbad : _ = true := hc83
                 refine vc_then ?_
                 refine vc_region ?_
                 refine vy a_assign ?_
                 refine vy a_assign ?_
                 refine vl_nil ?_
                 refine vc_ret ?_
                 refine fin ?_
                 simp only [fitsL, fits, C.asD, and_true]
                 all_goals (first | (rw [app_5 h5]; exact ⟨rfl, rfl⟩) | (rw [refApp_gone hl hx hp hgone]; exact ⟨rfl, rfl⟩) | (exfalso; have hrk := right_kind hx; omega) | (clear hW hRe hok2 hall hpe hal hR hA hok hAl hk; generalize at0 (wasL l x) = w at *; generalize at1 (wasL l x) = v at *; generalize s.2.2.2 = R at *; first | (refine app_16 (m := []) hgo ?_; clear hgo; unfold refA; simp_all; done) | (refine app_0 hgo ?_ ?_ <;> (clear hgo; unfold refA; simp_all; done))))
                · -- no
                 have hgood : _ = false := hc83
                 refine vc_skip ?_
                 refine vc_then ?_
                 refine vc_region ?_
                 refine vy a_move ?_
                 refine vy a_assign ?_
                 refine vy a_assign ?_
                 refine vl_nil ?_
                 refine vc_ret ?_
                 refine fin ?_
                 simp only [fitsL, fits, C.asD, and_true]
                 all_goals (first | (rw [app_5 h5]; exact ⟨rfl, rfl⟩) | (rw [refApp_gone hl hx hp hgone]; exact ⟨rfl, rfl⟩) | (exfalso; have hrk := right_kind hx; omega) | (clear hW hRe hok2 hall hpe hal hR hA hok hAl hk; generalize at0 (wasL l x) = w at *; generalize at1 (wasL l x) = v at *; generalize s.2.2.2 = R at *; first | (refine app_16 (m := []) hgo ?_; clear hgo; unfold refA; simp_all; done) | (refine app_0 hgo ?_ ?_ <;> (clear hgo; unfold refA; simp_all; done))))
            · -- no
             have hnkind_8 : ¬ x.kind = 8 := by simpa using hc72
             refine vc_skip ?_
             refine vc_then ?_
             refine vc_then ?_
             refine vc_region ?_
             first | refine vy (a_fr (hf := T.fo_30_0)) ?_ | refine vy (a_fa (hf := T.fo_30_0)) ?_
             first | refine vy (k_ldr T.ts_3) ?_ | refine vy (k_lda T.ts_3) ?_
             refine vy (a_bin (hr := by first | exact pr_add1 (by omega) | exact pr_mul (wrap64 _ (mul_bound (was_worth hl hall (by omega)) (factor_ok hx (by omega)))) | exact pr_eql | exact pr_eqs | exact pr_eqb Try.underlying3)) ?_
             refine vl_nil ?_
             refine vif (fun hc84 => ?_) (fun hc84 => ?_)
             · -- yes
              have hkkind_9 : x.kind = 9 := by simpa using hc84
              refine vc_then ?_
              refine vc_drawn0 T.mixed ?_
              refine qy a_move ?_
              refine qy (a_ix (hT := T.es_22) (h0 := by first | omega | decide) (hy := by first | exact map_at hp | exact fieldAt_ix hn | exact was_0 hW (by omega) | exact was_1 hW (by omega) | exact co6_0 (by omega) | exact co6_1 (by omega) | exact co_at (by omega) | exact co_0 (by omega))) ?_
              first | refine qy (a_fr (hf := T.fo_27_1)) ?_ | refine qy (a_fa (hf := T.fo_27_1)) ?_
              first | refine qy (k_ldr T.ts_3) ?_ | refine qy (k_lda T.ts_3) ?_
              refine qy (a_bin (hr := by first | exact pr_add1 (by omega) | exact pr_mul (wrap64 _ (mul_bound (was_worth hl hall (by omega)) (factor_ok hx (by omega)))) | exact pr_eql | exact pr_eqs | exact pr_eqb Try.underlying3)) ?_
              refine qy a_move ?_
              refine qb 225 (fun hg85 => ?_) (fun hg85 => ?_)
              · -- guard yes
               refine qy a_move ?_
               refine qy (a_ix (hT := T.es_22) (h0 := by first | omega | decide) (hy := by first | exact map_at hp | exact fieldAt_ix hn | exact was_0 hW (by omega) | exact was_1 hW (by omega) | exact co6_0 (by omega) | exact co6_1 (by omega) | exact co_at (by omega) | exact co_0 (by omega))) ?_
               first | refine qy (a_fr (hf := T.fo_27_1)) ?_ | refine qy (a_fa (hf := T.fo_27_1)) ?_
               first | refine qy (k_ldr T.ts_3) ?_ | refine qy (k_lda T.ts_3) ?_
               refine qy (a_bin (hr := by first | exact pr_add1 (by omega) | exact pr_mul (wrap64 _ (mul_bound (was_worth hl hall (by omega)) (factor_ok hx (by omega)))) | exact pr_eql | exact pr_eqs | exact pr_eqb Try.underlying3)) ?_
               refine qy a_pick ?_
               refine qy a_move ?_
               refine qb 232 (fun hg86 => ?_) (fun hg86 => ?_)
               · -- guard yes
                refine qy a_move ?_
                refine qy (a_ix (hT := T.es_22) (h0 := by first | omega | decide) (hy := by first | exact map_at hp | exact fieldAt_ix hn | exact was_0 hW (by omega) | exact was_1 hW (by omega) | exact co6_0 (by omega) | exact co6_1 (by omega) | exact co_at (by omega) | exact co_0 (by omega))) ?_
                first | refine qy (a_fr (hf := T.fo_27_4)) ?_ | refine qy (a_fa (hf := T.fo_27_4)) ?_
                first | refine qy (k_ldr T.ts_2) ?_ | refine qy (k_lda T.ts_2) ?_
                refine qy a_move ?_
                refine qy (a_ix (hT := T.es_22) (h0 := by first | omega | decide) (hy := by first | exact map_at hp | exact fieldAt_ix hn | exact was_0 hW (by omega) | exact was_1 hW (by omega) | exact co6_0 (by omega) | exact co6_1 (by omega) | exact co_at (by omega) | exact co_0 (by omega))) ?_
                first | refine qy (a_fr (hf := T.fo_27_4)) ?_ | refine qy (a_fa (hf := T.fo_27_4)) ?_
                first | refine qy (k_ldr T.ts_2) ?_ | refine qy (k_lda T.ts_2) ?_
                first | refine qy (a_fr (hf := T.fo_30_4)) ?_ | refine qy (a_fa (hf := T.fo_30_4)) ?_
                first | refine qy (k_ldr T.ts_2) ?_ | refine qy (k_lda T.ts_2) ?_
                refine qy (a_bin (hr := by first | exact pr_add1 (by omega) | exact pr_mul (wrap64 _ (mul_bound (was_worth hl hall (by omega)) (factor_ok hx (by omega)))) | exact pr_mul (by first | exact wrap64 _ (by (first | omega | (simp only [List.length_map, List.length_append, List.length_nil, List.length_cons]; omega))) | rfl))) ?_
                refine qy (a_bin (hr := by first | exact pr_add1 (by omega) | exact pr_mul (wrap64 _ (mul_bound (was_worth hl hall (by omega)) (factor_ok hx (by omega)))) | exact pr_eql | exact pr_eqs | exact pr_eqb Try.underlying2)) ?_
                refine qy a_pick ?_
                refine qy a_assign ?_
                show _
                refine vc_drawn0 T.mixed ?_
                refine qy a_move ?_
                refine qy a_move ?_
                refine qy (a_ix (hT := T.es_40) (h0 := by first | omega | decide) (hy := by first | exact map_at hp | exact fieldAt_ix hn | exact was_0 hW (by omega) | exact was_1 hW (by omega) | exact co6_0 (by omega) | exact co6_1 (by omega) | exact co_at (by omega) | exact co_0 (by omega))) ?_
                first | refine qy (k_ldr T.ts_24) ?_ | refine qy (k_lda T.ts_24) ?_
                refine qy a_move ?_
                refine qy (a_ix (hT := T.es_22) (h0 := by first | omega | decide) (hy := by first | exact map_at hp | exact fieldAt_ix hn | exact was_0 hW (by omega) | exact was_1 hW (by omega) | exact co6_0 (by omega) | exact co6_1 (by omega) | exact co_at (by omega) | exact co_0 (by omega))) ?_
                first | refine qy (a_fr (hf := T.fo_27_4)) ?_ | refine qy (a_fa (hf := T.fo_27_4)) ?_
                first | refine qy (k_ldr T.ts_2) ?_ | refine qy (k_lda T.ts_2) ?_
                refine qy (a_build (hb := by first | rfl) (hr := by first | exact snoc_map (g := fD) | exact one_map (g := fD) | rfl)) ?_
                refine qy a_move ?_
                refine qy (a_call (hf := T.en_71) (hc := by first | exact refPut_any _ _ _ hok2 (was_ok ho hall (by omega)) | exact refPut_any _ x.field _ hok2 hx0.1 | exact refPut_any _ ⟨named x.at_ x.name, 1, noB, [], (at0 (wasL l x)).worth⟩ _ hok2 (Nat.zero_le _) | exact refPut_any _ ⟨named x.at_ x.other, 1, noB, [], (at0 (wasL l x)).worth * x.factor⟩ _ (okL_put hok2 (Nat.zero_le _)) (Nat.zero_le _) | exact refPut_any _ ⟨x.at_, 4, noB, [], 0⟩ _ hok2 (Nat.zero_le _) | exact refPut_any _ ⟨x.at_, 1, noB, [], (at0 (wasL l x)).worth⟩ _ hok2 (Nat.zero_le _) | exact refPut_any _ ⟨x.at_, 2, x.other, [], 0⟩ _ hok2 (Nat.zero_le _) | exact refPut_any _ ⟨x.at_, 3, x.other, froms x.back, 0⟩ _ hok2 (froms_ok hx0.2.2))) ?_
                refine qy a_move ?_
                refine qy a_ext ?_
                refine qy a_ext ?_
                refine qy a_assign ?_
                refine qy a_assign ?_
                show _
                refine vc_then ?_
                refine vc_then ?_
                refine vc_region ?_
                first | refine vy (a_fr (hf := T.fo_30_0)) ?_ | refine vy (a_fa (hf := T.fo_30_0)) ?_
                first | refine vy (k_ldr T.ts_3) ?_ | refine vy (k_lda T.ts_3) ?_
                refine vy (a_bin (hr := by first | exact pr_add1 (by omega) | exact pr_mul (wrap64 _ (mul_bound (was_worth hl hall (by omega)) (factor_ok hx (by omega)))) | exact pr_eql | exact pr_eqs | exact pr_eqb Try.underlying3)) ?_
                refine vl_nil ?_
                refine vif (fun hc87 => ?_) (fun hc87 => ?_)
                · -- yes
                 exfalso; have hdead := hc87; simp at hdead <;> omega
                · -- no
                 have hnkind_10 : ¬ x.kind = 10 := by simpa using hc87
                 refine vc_skip ?_
                 refine vc_then ?_
                 refine vc_then ?_
                 refine vc_region ?_
                 refine vy a_move ?_
                 refine vy a_not ?_
                 refine vl_nil ?_
                 refine vif (fun hc88 => ?_) (fun hc88 => ?_)
                 · -- yes
                  have hbad : _ = true := hc88
                  refine vc_then ?_
                  refine vc_region ?_
                  refine vy a_assign ?_
                  refine vy a_assign ?_
                  refine vl_nil ?_
                  refine vc_ret ?_
                  refine fin ?_
                  simp only [fitsL, fits, C.asD, and_true]
                  all_goals (first | (rw [app_5 h5]; exact ⟨rfl, rfl⟩) | (rw [refApp_gone hl hx hp hgone]; exact ⟨rfl, rfl⟩) | (exfalso; have hrk := right_kind hx; omega) | (clear hW hRe hok2 hall hpe hal hR hA hok hAl hk; generalize at0 (wasL l x) = w at *; generalize at1 (wasL l x) = v at *; generalize s.2.2.2 = R at *; first | (refine app_16 (m := []) hgo ?_; clear hgo; unfold refA; simp_all; done) | (refine app_0 hgo ?_ ?_ <;> (clear hgo; unfold refA; simp_all; done))))
                 · -- no
                  have hgood : _ = false := hc88
                  refine vc_skip ?_
                  refine vc_then ?_
                  refine vc_region ?_
                  refine vy a_move ?_
                  refine vy a_assign ?_
                  refine vy a_assign ?_
                  refine vl_nil ?_
                  refine vc_ret ?_
                  refine fin ?_
                  simp only [fitsL, fits, C.asD, and_true]
                  all_goals (first | (rw [app_5 h5]; exact ⟨rfl, rfl⟩) | (rw [refApp_gone hl hx hp hgone]; exact ⟨rfl, rfl⟩) | (exfalso; have hrk := right_kind hx; omega) | (clear hW hRe hok2 hall hpe hal hR hA hok hAl hk; generalize at0 (wasL l x) = w at *; generalize at1 (wasL l x) = v at *; generalize s.2.2.2 = R at *; first | (refine app_16 (m := []) hgo ?_; clear hgo; unfold refA; simp_all; done) | (refine app_0 hgo ?_ ?_ <;> (clear hgo; unfold refA; simp_all; done))))
               · -- guard no
                refine qn ?_
                refine qn ?_
                refine qn ?_
                refine qn ?_
                refine qn ?_
                refine qn ?_
                refine qn ?_
                refine qn ?_
                refine qn ?_
                refine qn ?_
                refine qn ?_
                refine qn ?_
                refine qy a_pick ?_
                refine qy a_assign ?_
                show _
                refine vc_drawn0 T.mixed ?_
                refine qy a_move ?_
                refine qy a_move ?_
                refine qy (a_ix (hT := T.es_40) (h0 := by first | omega | decide) (hy := by first | exact map_at hp | exact fieldAt_ix hn | exact was_0 hW (by omega) | exact was_1 hW (by omega) | exact co6_0 (by omega) | exact co6_1 (by omega) | exact co_at (by omega) | exact co_0 (by omega))) ?_
                first | refine qy (k_ldr T.ts_24) ?_ | refine qy (k_lda T.ts_24) ?_
                refine qy a_move ?_
                refine qy (a_ix (hT := T.es_22) (h0 := by first | omega | decide) (hy := by first | exact map_at hp | exact fieldAt_ix hn | exact was_0 hW (by omega) | exact was_1 hW (by omega) | exact co6_0 (by omega) | exact co6_1 (by omega) | exact co_at (by omega) | exact co_0 (by omega))) ?_
                first | refine qy (a_fr (hf := T.fo_27_4)) ?_ | refine qy (a_fa (hf := T.fo_27_4)) ?_
                first | refine qy (k_ldr T.ts_2) ?_ | refine qy (k_lda T.ts_2) ?_
                refine qy (a_build (hb := by first | rfl) (hr := by first | exact snoc_map (g := fD) | exact one_map (g := fD) | rfl)) ?_
                refine qy a_move ?_
                refine qy (a_call (hf := T.en_71) (hc := by first | exact refPut_any _ _ _ hok2 (was_ok ho hall (by omega)) | exact refPut_any _ x.field _ hok2 hx0.1 | exact refPut_any _ ⟨named x.at_ x.name, 1, noB, [], (at0 (wasL l x)).worth⟩ _ hok2 (Nat.zero_le _) | exact refPut_any _ ⟨named x.at_ x.other, 1, noB, [], (at0 (wasL l x)).worth * x.factor⟩ _ (okL_put hok2 (Nat.zero_le _)) (Nat.zero_le _) | exact refPut_any _ ⟨x.at_, 4, noB, [], 0⟩ _ hok2 (Nat.zero_le _) | exact refPut_any _ ⟨x.at_, 1, noB, [], (at0 (wasL l x)).worth⟩ _ hok2 (Nat.zero_le _) | exact refPut_any _ ⟨x.at_, 2, x.other, [], 0⟩ _ hok2 (Nat.zero_le _) | exact refPut_any _ ⟨x.at_, 3, x.other, froms x.back, 0⟩ _ hok2 (froms_ok hx0.2.2))) ?_
                refine qy a_move ?_
                refine qy a_ext ?_
                refine qy a_ext ?_
                refine qy a_assign ?_
                refine qy a_assign ?_
                show _
                refine vc_then ?_
                refine vc_then ?_
                refine vc_region ?_
                first | refine vy (a_fr (hf := T.fo_30_0)) ?_ | refine vy (a_fa (hf := T.fo_30_0)) ?_
                first | refine vy (k_ldr T.ts_3) ?_ | refine vy (k_lda T.ts_3) ?_
                refine vy (a_bin (hr := by first | exact pr_add1 (by omega) | exact pr_mul (wrap64 _ (mul_bound (was_worth hl hall (by omega)) (factor_ok hx (by omega)))) | exact pr_eql | exact pr_eqs | exact pr_eqb Try.underlying3)) ?_
                refine vl_nil ?_
                refine vif (fun hc89 => ?_) (fun hc89 => ?_)
                · -- yes
                 exfalso; have hdead := hc89; simp at hdead <;> omega
                · -- no
                 have hnkind_10 : ¬ x.kind = 10 := by simpa using hc89
                 refine vc_skip ?_
                 refine vc_then ?_
                 refine vc_then ?_
                 refine vc_region ?_
                 refine vy a_move ?_
                 refine vy a_not ?_
                 refine vl_nil ?_
                 refine vif (fun hc90 => ?_) (fun hc90 => ?_)
                 · -- yes
                  have hbad : _ = true := hc90
                  refine vc_then ?_
                  refine vc_region ?_
                  refine vy a_assign ?_
                  refine vy a_assign ?_
                  refine vl_nil ?_
                  refine vc_ret ?_
                  refine fin ?_
                  simp only [fitsL, fits, C.asD, and_true]
                  all_goals (first | (rw [app_5 h5]; exact ⟨rfl, rfl⟩) | (rw [refApp_gone hl hx hp hgone]; exact ⟨rfl, rfl⟩) | (exfalso; have hrk := right_kind hx; omega) | (clear hW hRe hok2 hall hpe hal hR hA hok hAl hk; generalize at0 (wasL l x) = w at *; generalize at1 (wasL l x) = v at *; generalize s.2.2.2 = R at *; first | (refine app_16 (m := []) hgo ?_; clear hgo; unfold refA; simp_all; done) | (refine app_0 hgo ?_ ?_ <;> (clear hgo; unfold refA; simp_all; done))))
                 · -- no
                  have hgood : _ = false := hc90
                  refine vc_skip ?_
                  refine vc_then ?_
                  refine vc_region ?_
                  refine vy a_move ?_
                  refine vy a_assign ?_
                  refine vy a_assign ?_
                  refine vl_nil ?_
                  refine vc_ret ?_
                  refine fin ?_
                  simp only [fitsL, fits, C.asD, and_true]
                  all_goals (first | (rw [app_5 h5]; exact ⟨rfl, rfl⟩) | (rw [refApp_gone hl hx hp hgone]; exact ⟨rfl, rfl⟩) | (exfalso; have hrk := right_kind hx; omega) | (clear hW hRe hok2 hall hpe hal hR hA hok hAl hk; generalize at0 (wasL l x) = w at *; generalize at1 (wasL l x) = v at *; generalize s.2.2.2 = R at *; first | (refine app_16 (m := []) hgo ?_; clear hgo; unfold refA; simp_all; done) | (refine app_0 hgo ?_ ?_ <;> (clear hgo; unfold refA; simp_all; done))))
              · -- guard no
               refine qn ?_
               refine qn ?_
               refine qn ?_
               refine qn ?_
               refine qn ?_
               refine qy a_pick ?_
               refine qy a_move ?_
               refine qn ?_
               refine qn ?_
               refine qn ?_
               refine qn ?_
               refine qn ?_
               refine qn ?_
               refine qn ?_
               refine qn ?_
               refine qn ?_
               refine qn ?_
               refine qn ?_
               refine qn ?_
               refine qy a_pick ?_
               refine qy a_assign ?_
               show _
               refine vc_drawn0 T.mixed ?_
               refine qy a_move ?_
               refine qy a_move ?_
               refine qy (a_ix (hT := T.es_40) (h0 := by first | omega | decide) (hy := by first | exact map_at hp | exact fieldAt_ix hn | exact was_0 hW (by omega) | exact was_1 hW (by omega) | exact co6_0 (by omega) | exact co6_1 (by omega) | exact co_at (by omega) | exact co_0 (by omega))) ?_
               first | refine qy (k_ldr T.ts_24) ?_ | refine qy (k_lda T.ts_24) ?_
               refine qy a_move ?_
               refine qy (a_ix (hT := T.es_22) (h0 := by first | omega | decide) (hy := by first | exact map_at hp | exact fieldAt_ix hn | exact was_0 hW (by omega) | exact was_1 hW (by omega) | exact co6_0 (by omega) | exact co6_1 (by omega) | exact co_at (by omega) | exact co_0 (by omega))) ?_
               first | refine qy (a_fr (hf := T.fo_27_4)) ?_ | refine qy (a_fa (hf := T.fo_27_4)) ?_
               first | refine qy (k_ldr T.ts_2) ?_ | refine qy (k_lda T.ts_2) ?_
               refine qy (a_build (hb := by first | rfl) (hr := by first | exact snoc_map (g := fD) | exact one_map (g := fD) | rfl)) ?_
               refine qy a_move ?_
               refine qy (a_call (hf := T.en_71) (hc := by first | exact refPut_any _ _ _ hok2 (was_ok ho hall (by omega)) | exact refPut_any _ x.field _ hok2 hx0.1 | exact refPut_any _ ⟨named x.at_ x.name, 1, noB, [], (at0 (wasL l x)).worth⟩ _ hok2 (Nat.zero_le _) | exact refPut_any _ ⟨named x.at_ x.other, 1, noB, [], (at0 (wasL l x)).worth * x.factor⟩ _ (okL_put hok2 (Nat.zero_le _)) (Nat.zero_le _) | exact refPut_any _ ⟨x.at_, 4, noB, [], 0⟩ _ hok2 (Nat.zero_le _) | exact refPut_any _ ⟨x.at_, 1, noB, [], (at0 (wasL l x)).worth⟩ _ hok2 (Nat.zero_le _) | exact refPut_any _ ⟨x.at_, 2, x.other, [], 0⟩ _ hok2 (Nat.zero_le _) | exact refPut_any _ ⟨x.at_, 3, x.other, froms x.back, 0⟩ _ hok2 (froms_ok hx0.2.2))) ?_
               refine qy a_move ?_
               refine qy a_ext ?_
               refine qy a_ext ?_
               refine qy a_assign ?_
               refine qy a_assign ?_
               show _
               refine vc_then ?_
               refine vc_then ?_
               refine vc_region ?_
               first | refine vy (a_fr (hf := T.fo_30_0)) ?_ | refine vy (a_fa (hf := T.fo_30_0)) ?_
               first | refine vy (k_ldr T.ts_3) ?_ | refine vy (k_lda T.ts_3) ?_
               refine vy (a_bin (hr := by first | exact pr_add1 (by omega) | exact pr_mul (wrap64 _ (mul_bound (was_worth hl hall (by omega)) (factor_ok hx (by omega)))) | exact pr_eql | exact pr_eqs | exact pr_eqb Try.underlying3)) ?_
               refine vl_nil ?_
               refine vif (fun hc91 => ?_) (fun hc91 => ?_)
               · -- yes
                exfalso; have hdead := hc91; simp at hdead <;> omega
               · -- no
                have hnkind_10 : ¬ x.kind = 10 := by simpa using hc91
                refine vc_skip ?_
                refine vc_then ?_
                refine vc_then ?_
                refine vc_region ?_
                refine vy a_move ?_
                refine vy a_not ?_
                refine vl_nil ?_
                refine vif (fun hc92 => ?_) (fun hc92 => ?_)
                · -- yes
                 have hbad : _ = true := hc92
                 refine vc_then ?_
                 refine vc_region ?_
                 refine vy a_assign ?_
                 refine vy a_assign ?_
                 refine vl_nil ?_
                 refine vc_ret ?_
                 refine fin ?_
                 simp only [fitsL, fits, C.asD, and_true]
                 all_goals (first | (rw [app_5 h5]; exact ⟨rfl, rfl⟩) | (rw [refApp_gone hl hx hp hgone]; exact ⟨rfl, rfl⟩) | (exfalso; have hrk := right_kind hx; omega) | (clear hW hRe hok2 hall hpe hal hR hA hok hAl hk; generalize at0 (wasL l x) = w at *; generalize at1 (wasL l x) = v at *; generalize s.2.2.2 = R at *; first | (refine app_16 (m := []) hgo ?_; clear hgo; unfold refA; simp_all; done) | (refine app_0 hgo ?_ ?_ <;> (clear hgo; unfold refA; simp_all; done))))
                · -- no
                 have hgood : _ = false := hc92
                 refine vc_skip ?_
                 refine vc_then ?_
                 refine vc_region ?_
                 refine vy a_move ?_
                 refine vy a_assign ?_
                 refine vy a_assign ?_
                 refine vl_nil ?_
                 refine vc_ret ?_
                 refine fin ?_
                 simp only [fitsL, fits, C.asD, and_true]
                 all_goals (first | (rw [app_5 h5]; exact ⟨rfl, rfl⟩) | (rw [refApp_gone hl hx hp hgone]; exact ⟨rfl, rfl⟩) | (exfalso; have hrk := right_kind hx; omega) | (clear hW hRe hok2 hall hpe hal hR hA hok hAl hk; generalize at0 (wasL l x) = w at *; generalize at1 (wasL l x) = v at *; generalize s.2.2.2 = R at *; first | (refine app_16 (m := []) hgo ?_; clear hgo; unfold refA; simp_all; done) | (refine app_0 hgo ?_ ?_ <;> (clear hgo; unfold refA; simp_all; done))))
             · -- no
              have hnkind_9 : ¬ x.kind = 9 := by simpa using hc84
              refine vc_skip ?_
              refine vc_then ?_
              refine vc_then ?_
              refine vc_region ?_
              first | refine vy (a_fr (hf := T.fo_30_0)) ?_ | refine vy (a_fa (hf := T.fo_30_0)) ?_
              first | refine vy (k_ldr T.ts_3) ?_ | refine vy (k_lda T.ts_3) ?_
              refine vy (a_bin (hr := by first | exact pr_add1 (by omega) | exact pr_mul (wrap64 _ (mul_bound (was_worth hl hall (by omega)) (factor_ok hx (by omega)))) | exact pr_eql | exact pr_eqs | exact pr_eqb Try.underlying3)) ?_
              refine vl_nil ?_
              refine vif (fun hc93 => ?_) (fun hc93 => ?_)
              · -- yes
               have hkkind_10 : x.kind = 10 := by simpa using hc93
               refine vc_then ?_
               refine vc_region ?_
               refine vy a_move ?_
               refine vy (a_ix (hT := T.es_22) (h0 := by first | omega | decide) (hy := by first | exact map_at hp | exact fieldAt_ix hn | exact was_0 hW (by omega) | exact was_1 hW (by omega) | exact co6_0 (by omega) | exact co6_1 (by omega) | exact co_at (by omega) | exact co_0 (by omega))) ?_
               first | refine vy (a_fr (hf := T.fo_27_1)) ?_ | refine vy (a_fa (hf := T.fo_27_1)) ?_
               first | refine vy (k_ldr T.ts_3) ?_ | refine vy (k_lda T.ts_3) ?_
               refine vy (a_bin (hr := by first | exact pr_add1 (by omega) | exact pr_mul (wrap64 _ (mul_bound (was_worth hl hall (by omega)) (factor_ok hx (by omega)))) | exact pr_eql | exact pr_eqs | exact pr_eqb Try.underlying3)) ?_
               refine vy a_assign ?_
               refine vl_nil ?_
               refine vc_drawn0 T.mixed ?_
               refine qy a_move ?_
               refine qy a_move ?_
               refine qy (a_ix (hT := T.es_40) (h0 := by first | omega | decide) (hy := by first | exact map_at hp | exact fieldAt_ix hn | exact was_0 hW (by omega) | exact was_1 hW (by omega) | exact co6_0 (by omega) | exact co6_1 (by omega) | exact co_at (by omega) | exact co_0 (by omega))) ?_
               first | refine qy (k_ldr T.ts_24) ?_ | refine qy (k_lda T.ts_24) ?_
               first | refine qy (a_fr (hf := T.fo_30_3)) ?_ | refine qy (a_fa (hf := T.fo_30_3)) ?_
               first | refine qy (k_ldr T.ts_9) ?_ | refine qy (k_lda T.ts_9) ?_
               refine qy (a_build (hb := by first | rfl) (hr := by first | exact snoc_map (g := fD) | exact one_map (g := fD) | rfl)) ?_
               refine qy a_move ?_
               refine qy (a_call (hf := T.en_71) (hc := by first | exact refPut_any _ _ _ hok2 (was_ok ho hall (by omega)) | exact refPut_any _ x.field _ hok2 hx0.1 | exact refPut_any _ ⟨named x.at_ x.name, 1, noB, [], (at0 (wasL l x)).worth⟩ _ hok2 (Nat.zero_le _) | exact refPut_any _ ⟨named x.at_ x.other, 1, noB, [], (at0 (wasL l x)).worth * x.factor⟩ _ (okL_put hok2 (Nat.zero_le _)) (Nat.zero_le _) | exact refPut_any _ ⟨x.at_, 4, noB, [], 0⟩ _ hok2 (Nat.zero_le _) | exact refPut_any _ ⟨x.at_, 1, noB, [], (at0 (wasL l x)).worth⟩ _ hok2 (Nat.zero_le _) | exact refPut_any _ ⟨x.at_, 2, x.other, [], 0⟩ _ hok2 (Nat.zero_le _) | exact refPut_any _ ⟨x.at_, 3, x.other, froms x.back, 0⟩ _ hok2 (froms_ok hx0.2.2))) ?_
               refine qy a_move ?_
               refine qy a_ext ?_
               refine qy a_ext ?_
               refine qy a_assign ?_
               refine qy a_assign ?_
               show _
               refine vc_then ?_
               refine vc_then ?_
               refine vc_region ?_
               refine vy a_move ?_
               refine vy a_not ?_
               refine vl_nil ?_
               refine vif (fun hc94 => ?_) (fun hc94 => ?_)
               · -- yes
                have hbad : _ = true := hc94
                refine vc_then ?_
                refine vc_region ?_
                refine vy a_assign ?_
                refine vy a_assign ?_
                refine vl_nil ?_
                refine vc_ret ?_
                refine fin ?_
                simp only [fitsL, fits, C.asD, and_true]
                all_goals (first | (rw [app_5 h5]; exact ⟨rfl, rfl⟩) | (rw [refApp_gone hl hx hp hgone]; exact ⟨rfl, rfl⟩) | (exfalso; have hrk := right_kind hx; omega) | (clear hW hRe hok2 hall hpe hal hR hA hok hAl hk; generalize at0 (wasL l x) = w at *; generalize at1 (wasL l x) = v at *; generalize s.2.2.2 = R at *; first | (refine app_16 (m := []) hgo ?_; clear hgo; unfold refA; simp_all; done) | (refine app_0 hgo ?_ ?_ <;> (clear hgo; unfold refA; simp_all; done))))
               · -- no
                have hgood : _ = false := hc94
                refine vc_skip ?_
                refine vc_then ?_
                refine vc_region ?_
                refine vy a_move ?_
                refine vy a_assign ?_
                refine vy a_assign ?_
                refine vl_nil ?_
                refine vc_ret ?_
                refine fin ?_
                simp only [fitsL, fits, C.asD, and_true]
                all_goals (first | (rw [app_5 h5]; exact ⟨rfl, rfl⟩) | (rw [refApp_gone hl hx hp hgone]; exact ⟨rfl, rfl⟩) | (exfalso; have hrk := right_kind hx; omega) | (clear hW hRe hok2 hall hpe hal hR hA hok hAl hk; generalize at0 (wasL l x) = w at *; generalize at1 (wasL l x) = v at *; generalize s.2.2.2 = R at *; first | (refine app_16 (m := []) hgo ?_; clear hgo; unfold refA; simp_all; done) | (refine app_0 hgo ?_ ?_ <;> (clear hgo; unfold refA; simp_all; done))))
              · -- no
               have hnkind_10 : ¬ x.kind = 10 := by simpa using hc93
               refine vc_skip ?_
               refine vc_then ?_
               refine vc_then ?_
               refine vc_region ?_
               refine vy a_move ?_
               refine vy a_not ?_
               refine vl_nil ?_
               refine vif (fun hc95 => ?_) (fun hc95 => ?_)
               · -- yes
                first | (exfalso; have hdead := hc95; simp at hdead <;> omega) | (exfalso; simp_all; done)
               · -- no
                have hgood : _ = false := hc95
                refine vc_skip ?_
                refine vc_then ?_
                refine vc_region ?_
                refine vy a_move ?_
                refine vy a_assign ?_
                refine vy a_assign ?_
                refine vl_nil ?_
                refine vc_ret ?_
                refine fin ?_
                simp only [fitsL, fits, C.asD, and_true]
                all_goals (first | (rw [app_5 h5]; exact ⟨rfl, rfl⟩) | (rw [refApp_gone hl hx hp hgone]; exact ⟨rfl, rfl⟩) | (exfalso; have hrk := right_kind hx; omega) | (clear hW hRe hok2 hall hpe hal hR hA hok hAl hk; generalize at0 (wasL l x) = w at *; generalize at1 (wasL l x) = v at *; generalize s.2.2.2 = R at *; first | (refine app_16 (m := []) hgo ?_; clear hgo; unfold refA; simp_all; done) | (refine app_0 hgo ?_ ?_ <;> (clear hgo; unfold refA; simp_all; done))))
end Go.Vm
