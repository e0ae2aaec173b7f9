/- The walk of lens.Apply. Printed by lens_apply.py. -/
import Derived.Test.YthkgbmekiclgmaaLnArr
namespace Go.Vm
open Go.RowKit Go.Proofs
set_option linter.unusedVariables false
set_option linter.unusedSimpArgs false
set_option maxRecDepth 10000

theorem okL_sub {l m : List FieldD} (ho : okL l) (h : m.length ≤ 1000) (hs : ∀ f ∈ m, f ∈ l) : okL m := ⟨h, fun f hf => ho.2 f (hs f hf)⟩
theorem okL_del {l : List FieldD} {r : RefD} (ho : okL l) : okL (delF l r) := okL_sub ho (by have := ho.1; have h := List.length_filter_le (fun f => !decide (f.at_ = r)) l; unfold delF; omega) (fun f hf => (mem_delF.1 hf).1)
theorem okL_nil : okL [] := ⟨by simp, by simp⟩
theorem okL_without {l : List FieldD} {r : RefD} (ho : okL l) : okL (withoutS l r).1 := by
  unfold withoutS
  split
  · exact okL_nil
  split
  · exact okL_nil
  · exact okL_del ho
theorem okL_with {l : List FieldD} {f : FieldD} (ho : okL l) (hf : f.cases.length ≤ 1000000) : okL (withS l f).1 := by
  unfold withS
  split
  · exact okL_nil
  split
  · exact okL_nil
  split
  · exact okL_nil
  · refine ⟨by show (insF l f).length ≤ 1000; rw [length_insF]; omega, fun g hg => ?_⟩
    rcases mem_insF.1 hg with rfl | hg
    · exact hf
    · exact ho.2 g hg
theorem okL_withAll : ∀ {fs l : List FieldD}, okL l → (∀ f ∈ fs, f.cases.length ≤ 1000000) → okL (withAll l fs).1
  | [], l, h, _ => h
  | f :: fs, l, h, hf => by
    unfold withAll
    split
    · exact okL_withAll (okL_with h (hf f (List.mem_cons_self ..))) (fun g hg => hf g (List.mem_cons_of_mem _ hg))
    · exact okL_nil
theorem okL_delAll {rs : List RefD} : ∀ {l : List FieldD}, okL l → okL (delAll l rs) := by
  induction rs with
  | nil => intro l h; exact h
  | cons r rs ih => intro l h; exact ih (okL_del h)
theorem froms_ok {t : List (ByteArray × ByteArray)} (h : t.length ≤ 1000) : (froms t).length ≤ 1000000 := by unfold froms; rw [List.length_map]; omega
theorem news_ok {l : List FieldD} {x : LensD} {fs : List FieldD} (ho : okL l) (hx0 : okX x) (hat : ∀ g ∈ goesL x, ¬ indexS l g < 0) (h : newsL l x = some fs) : ∀ f ∈ fs, f.cases.length ≤ 1000000 := by
  have h1 := hx0.1
  have h2 := froms_ok hx0.2.2
  unfold newsL at h
  split at h
  · injection h with h; subst h; simpa using h1
  split at h
  · split at h
    · injection h with h; subst h; simp
    · cases h
  split at h
  · split at h
    · injection h with h; subst h; simp
    · cases h
  split at h
  · split at h
    · injection h with h; subst h; simp
    · cases h
  split at h
  · split at h
    · injection h with h; subst h; simp
    · cases h
  split at h
  · split at h
    · injection h with h; subst h; simp
    · cases h
  split at h
  · split at h
    · injection h with h; subst h; simpa using h2
    · cases h
  · rename_i q2 q3 q9 q6 q7 q10 q8
    injection h with h; subst h
    have hfa : (fieldAt l x.at_).cases.length ≤ 1000000 := ho.2 _ (fieldAt_spec (hat x.at_ (by rw [goes_o q2 q3 q9]; exact List.mem_singleton.2 rfl))).1
    cases comesL x with
    | nil => simp
    | cons c cs => simpa using hfa
theorem arr_ok {l : List FieldD} {x : LensD} (ho : okL l) (hx0 : okX x) (h : (arrS l x).2 = true) : ∀ f ∈ (arrS l x).1, f.cases.length ≤ 1000000 := by
  have hat : ∀ g ∈ goesL x, ¬ indexS l g < 0 := by
    intro g hg hn
    have := arr_missing (l := l) (x := x) (List.any_eq_true.2 ⟨g, hg, by simpa using hn⟩)
    rw [h] at this; cases this
  have h4 := arr_news hat
  cases hn : newsL l x with
  | none => rw [hn] at h4; simp only at h4; rw [h] at h4; cases h4
  | some fs => rw [hn] at h4; simp only at h4; rw [h4]; exact news_ok ho hx0 hat hn
theorem okL_apply {l : List FieldD} {x : LensD} (ho : okL l) (hx0 : okX x) : okL (applyS l x).1 := by
  unfold applyS
  split
  · exact okL_nil
  split
  · exact okL_nil
  rename_i hg
  have hat : ∀ g ∈ goesL x, ¬ indexS l g < 0 := by simpa using hg
  split
  · exact okL_nil
  · rename_i fs hfs
    exact okL_withAll (okL_delAll ho) (news_ok ho hx0 hat hfs)
theorem drop_at {α : Type} {l : List α} {k : Nat} {p : α} (hp : l[k]? = some p) : l.drop k = p :: l.drop (k + 1) := by
  obtain ⟨hlt, rfl⟩ := List.getElem?_eq_some_iff.1 hp
  exact List.drop_eq_getElem_cons hlt
theorem goes_len (x : LensD) : (goesL x).length ≤ 2 := by unfold goesL; (repeat' split) <;> simp
theorem app_5 {l : List FieldD} {x : LensD} (h : (rightS l && rightL x) = false) : applyS l x = ([], 5) := by unfold applyS; rw [if_pos h]
theorem app_arr {l : List FieldD} {x : LensD} (hl : rightS l = true) (hx : rightL x = true) (h : (arrS l x).2 = false) : applyS l x = ([], 16) := by rw [← applyP_eq]; unfold applyP; rw [hl, hx, if_neg (by simp), if_pos h]
theorem app_del {l : List FieldD} {x : LensD} (hl : rightS l = true) (hx : rightL x = true) (h : (arrS l x).2 = true) (hd : delLoop l (goesL x) = ([], 16)) : applyS l x = ([], 16) := by rw [← applyP_eq]; unfold applyP; rw [hl, hx, if_neg (by simp), h, if_neg (by simp), hd, if_pos (by simp)]
theorem app_with {l m : List FieldD} {x : LensD} (hl : rightS l = true) (hx : rightL x = true) (h : (arrS l x).2 = true) (hd : delLoop l (goesL x) = (m, 0)) : applyS l x = withAll m (arrS l x).1 := by rw [← applyP_eq]; unfold applyP; rw [hl, hx, if_neg (by simp), h, if_neg (by simp), hd, if_neg (by simp)]
theorem delLoop_hit {l : List FieldD} {r : RefD} {rs : List RefD} (h : ¬ (withoutS l r).2 = 0) : delLoop l (r :: rs) = ([], 16) := by unfold delLoop; rw [if_neg h]
theorem delLoop_next {l : List FieldD} {r : RefD} {rs : List RefD} (h : (withoutS l r).2 = 0) : delLoop l (r :: rs) = delLoop (withoutS l r).1 rs := by rw [delLoop, if_pos h]
theorem withAll_hit {l : List FieldD} {f : FieldD} {fs : List FieldD} (h : ¬ (withS l f).2 = 0) : withAll l (f :: fs) = ([], 16) := by rw [withAll, if_neg h]
theorem withAll_next {l : List FieldD} {f : FieldD} {fs : List FieldD} (h : (withS l f).2 = 0) : withAll l (f :: fs) = withAll (withS l f).1 fs := by rw [withAll, if_pos h]
theorem del_end {l m : List FieldD} {rs : List RefD} {k : Nat} (hk : rs.length ≤ k) (h : delLoop l rs = delLoop m (rs.drop k)) : delLoop l rs = (m, 0) := by rw [h, List.drop_eq_nil_of_le hk]; rfl
theorem with_end {l m fs : List FieldD} {k : Nat} (hk : fs.length ≤ k) (h : withAll l fs = withAll m (fs.drop k)) : withAll l fs = (m, 0) := by rw [h, List.drop_eq_nil_of_le hk]; rfl
theorem arr_len (l : List FieldD) (x : LensD) : (arrS l x).1.length ≤ 2 := by unfold arrS mergedS; (repeat' split) <;> simp

set_option maxHeartbeats 1000000 in
theorem apply_any (l : List FieldD) (x : LensD) (ho : okL l) (hx0 : okX x) : Contract Try.prog 15 [.row (l.map fD), lD x] [.d (.row ((applyS l x).1.map fD)), .d (.sc (.int .i64 (applyS l x).2))] := by
 refine fn_of (N := 64) [.tmp 4, .tmp 5] Try.func15 ?_
 simp only [envUp, Nat.zero_add, Nat.reduceAdd]
 have hl0 := ho.1
 refine vc_then ?_
 refine vc_region ?_
 refine vs b_box ?_
 refine vy a_assign ?_
 refine vy a_assign ?_
 refine vl_nil ?_
 refine vc_then ?_
 refine vc_then ?_
 refine vc_region ?_
 refine vy a_move ?_
 refine vy (a_call (hf := T.en_18) (hc := by exact schemaRight_any _ ho)) ?_
 refine vy a_not ?_
 refine vy a_move ?_
 refine vb 17 (fun hg1 => ?_) (fun hg1 => ?_)
 · -- guard yes
  refine vn ?_
  refine vn ?_
  refine vn ?_
  refine vy a_pick ?_
  refine vl_nil ?_
  refine vif (fun hc2 => ?_) (fun hc2 => ?_)
  · -- yes
   have h5 : (rightS l && rightL x) = false := by simp_all
   refine vc_then ?_
   refine vc_region ?_
   refine vy a_assign ?_
   refine vy a_assign ?_
   refine vl_nil ?_
   refine vc_ret ?_
   refine fin ?_
   simp only [fitsL, fits, C.asD, and_true]
   all_goals (first | (rw [app_5 h5]; exact ⟨rfl, rfl⟩) | (rw [app_arr hl hx har]; exact ⟨rfl, rfl⟩) | (rw [app_with hl hx har hD, hW]; exact ⟨rfl, rfl⟩) | (rw [app_del hl hx har hD]; exact ⟨rfl, rfl⟩))
  · -- no
   first | (exfalso; have hdead := hc2; simp at hdead <;> omega) | (exfalso; simp_all; done)
 · -- guard no
  first | refine vy (k_ldr T.ts_30) ?_ | refine vy (k_lda T.ts_30) ?_
  refine vy (a_call (hf := T.en_29) (hc := by exact lensRight_any _ hx0)) ?_
  refine vy a_not ?_
  refine vy a_pick ?_
  refine vl_nil ?_
  refine vif (fun hc3 => ?_) (fun hc3 => ?_)
  · -- yes
   have h5 : (rightS l && rightL x) = false := by simp_all
   refine vc_then ?_
   refine vc_region ?_
   refine vy a_assign ?_
   refine vy a_assign ?_
   refine vl_nil ?_
   refine vc_ret ?_
   refine fin ?_
   simp only [fitsL, fits, C.asD, and_true]
   all_goals (first | (rw [app_5 h5]; exact ⟨rfl, rfl⟩) | (rw [app_arr hl hx har]; exact ⟨rfl, rfl⟩) | (rw [app_with hl hx har hD, hW]; exact ⟨rfl, rfl⟩) | (rw [app_del hl hx har hD]; exact ⟨rfl, rfl⟩))
  · -- no
   have hg1 : rightS l = true ∧ rightL x = true := by simp_all
   have hl := hg1.1
   have hx := hg1.2
   refine vc_skip ?_
   refine vc_then ?_
   refine vc_region ?_
   refine vy a_move ?_
   first | refine vy (k_ldr T.ts_30) ?_ | refine vy (k_lda T.ts_30) ?_
   refine vy (a_call (hf := T.en_67) (hc := by exact arrivals_any _ _ ho hx0 hl hx)) ?_
   refine vy a_move ?_
   refine vy a_ext ?_
   refine vy a_ext ?_
   refine vy a_assign ?_
   refine vy a_assign ?_
   refine vl_nil ?_
   refine vc_then ?_
   refine vc_then ?_
   refine vc_region ?_
   refine vy a_move ?_
   refine vy a_not ?_
   refine vl_nil ?_
   refine vif (fun hc4 => ?_) (fun hc4 => ?_)
   · -- yes
    have har : (arrS l x).2 = false := by simpa using hc4
    refine vc_then ?_
    refine vc_region ?_
    refine vy a_assign ?_
    refine vy a_assign ?_
    refine vl_nil ?_
    refine vc_ret ?_
    refine fin ?_
    simp only [fitsL, fits, C.asD, and_true]
    all_goals (first | (rw [app_5 h5]; exact ⟨rfl, rfl⟩) | (rw [app_arr hl hx har]; exact ⟨rfl, rfl⟩) | (rw [app_with hl hx har hD, hW]; exact ⟨rfl, rfl⟩) | (rw [app_del hl hx har hD]; exact ⟨rfl, rfl⟩))
   · -- no
    have har : (arrS l x).2 = true := by simpa using hc4
    have haok := arr_ok ho hx0 har
    have hgl := goes_len x
    have hal := arr_len l x
    refine vc_skip ?_
    refine vc_then ?_
    refine vc_region ?_
    refine vy a_move ?_
    refine vy (a_call (hf := T.en_14) (hc := by exact schemaOwn_any _ ho)) ?_
    refine vy a_assign ?_
    refine vl_nil ?_
    refine vc_then ?_
    refine vc_region ?_
    refine vy a_assign ?_
    refine vl_nil ?_
    refine vc_then ?_
    refine vc_then ?_
    refine vc_region ?_
    first | refine vy (k_ldr T.ts_30) ?_ | refine vy (k_lda T.ts_30) ?_
    refine vy (a_call (hf := T.en_20) (hc := by exact lensGoes_at _ hx0 hx)) ?_
    refine vy (a_len (hT := T.es_40)) ?_
    refine vy a_move ?_
    refine vl_nil ?_
    refine vc_block ?_
    refine vk [6, 33, 34] (fun (s : Nat × List FieldD) e => upd (upd (e) (some 35) (.c (.d (.sc (.int .i64 ((s.1 : Nat) : Int)))))) (some 8) (.c (.d (.row (s.2.map fD))))) (fun s => s.1 ≤ (goesL x).length ∧ okL s.2 ∧ delLoop l (goesL x) = delLoop s.2 ((goesL x).drop s.1)) (fun s => (goesL x).length - s.1) (0, l) ⟨Nat.zero_le _, ho, rfl⟩ ?_ ?_
    · --
     repeat (first | exact sub_keep_nil | refine su ?_ | refine sk ?_)
    · --
     rintro s ⟨hk, hok, hi⟩
     refine vc_then ?_
     refine vc_region ?_
     refine vy (a_bin (hr := by first | exact pr_add1 (by omega) | exact pr_lss | exact pr_lts)) ?_
     refine vl_nil ?_
     refine vc_then ?_
     refine vif (fun hc5 => ?_) (fun hc5 => ?_)
     · -- yes
      obtain ⟨p, hp⟩ := elem_at hc5
      have hkl := lt_len hp
      refine vc_skip ?_
      refine vc_then ?_
      refine vc_block ?_
      refine vc_then ?_
      refine vc_region ?_
      refine vy (a_ix (hT := T.es_40) (h0 := by first | omega | decide) (hy := by first | exact map_at hp | exact map_at hq)) ?_
      first | refine vy (k_ldr T.ts_24) ?_ | refine vy (k_lda T.ts_24) ?_
      refine vs (b_alloc (hz := T.zo_24)) ?_
      refine vs (b_store T.ts_24) ?_
      refine vl_nil ?_
      refine vc_then ?_
      refine vc_region ?_
      refine vy a_move ?_
      first | refine vy (k_ldr T.ts_24) ?_ | refine vy (k_lda T.ts_24) ?_
      refine vy (a_call (hf := T.en_68) (hc := by exact schemaWithout_any _ _ hok)) ?_
      refine vy a_move ?_
      refine vy a_ext ?_
      refine vy a_ext ?_
      refine vy a_assign ?_
      refine vy a_assign ?_
      refine vl_nil ?_
      refine vc_then ?_
      refine vc_region ?_
      refine vy a_move ?_
      refine vy (a_bin (hr := by first | exact pr_add1 (by omega) | exact pr_neq | exact pr_nes | exact pr_neb Try.underlying35)) ?_
      refine vl_nil ?_
      refine vif (fun hc6 => ?_) (fun hc6 => ?_)
      · -- yes
       have hc0 : ¬ (withoutS s.2 p).2 = 0 := by simpa using hc6
       have hD : delLoop l (goesL x) = ([], 16) := by rw [hi, drop_at hp]; exact delLoop_hit hc0
       refine vc_then ?_
       refine vc_region ?_
       refine vy a_assign ?_
       refine vy a_assign ?_
       refine vl_nil ?_
       refine vc_ret ?_
       refine fin ?_
       simp only [fitsL, fits, C.asD, and_true]
       all_goals (first | (rw [app_5 h5]; exact ⟨rfl, rfl⟩) | (rw [app_arr hl hx har]; exact ⟨rfl, rfl⟩) | (rw [app_with hl hx har hD, hW]; exact ⟨rfl, rfl⟩) | (rw [app_del hl hx har hD]; exact ⟨rfl, rfl⟩))
      · -- no
       have hc0 : (withoutS s.2 p).2 = 0 := by simpa using hc6
       refine vc_skip ?_
       refine vc_region ?_
       refine vy (a_bin (hr := by first | exact pr_add1 (by omega) | exact pr_add (by first | exact wrap64 _ (by (first | omega | (simp only [List.length_map, List.length_append, List.length_nil, List.length_cons]; omega))) | rfl) | exact pr_cat (by (first | omega | (simp only [List.length_map, List.length_append, List.length_nil, List.length_cons]; omega))))) ?_
       refine vy a_move ?_
       refine vl_nil ?_
       refine ⟨_, ?_, (s.1 + 1, (withoutS s.2 p).1), ⟨lt_len hp, okL_without hok, by rw [hi, drop_at hp]; exact delLoop_next hc0⟩, rfl, ?_⟩
       · --
        have := lt_len hp; (try dsimp only); omega
       · --
        repeat (first | exact sub_keep_nil | refine su ?_ | refine sk ?_)
     · -- no
      have hD : delLoop l (goesL x) = (s.2, 0) := del_end (past_end hc5) hi
      refine vc_exit ?_
      refine vc_then ?_
      refine vc_then ?_
      refine vc_region ?_
      refine vy a_move ?_
      refine vy (a_len (hT := T.es_22)) ?_
      refine vy a_move ?_
      refine vl_nil ?_
      refine vc_block ?_
      refine vk [48, 49] (fun (u : Nat × List FieldD) e => upd (upd (e) (some 50) (.c (.d (.sc (.int .i64 ((u.1 : Nat) : Int)))))) (some 8) (.c (.d (.row (u.2.map fD))))) (fun u => u.1 ≤ (arrS l x).1.length ∧ okL u.2 ∧ withAll s.2 (arrS l x).1 = withAll u.2 ((arrS l x).1.drop u.1)) (fun u => (arrS l x).1.length - u.1) (0, s.2) ⟨Nat.zero_le _, hok, rfl⟩ ?_ ?_
      · --
       repeat (first | exact sub_keep_nil | refine su ?_ | refine sk ?_)
      · --
       rintro u ⟨hk2, hok, hv⟩
       refine vc_then ?_
       refine vc_region ?_
       refine vy (a_bin (hr := by first | exact pr_add1 (by omega) | exact pr_lss | exact pr_lts)) ?_
       refine vl_nil ?_
       refine vc_then ?_
       refine vif (fun hc7 => ?_) (fun hc7 => ?_)
       · -- yes
        obtain ⟨q, hq⟩ := elem_at hc7
        have hkl2 := lt_len hq
        refine vc_skip ?_
        refine vc_then ?_
        refine vc_block ?_
        refine vc_then ?_
        refine vc_region ?_
        refine vy (a_ix (hT := T.es_22) (h0 := by first | omega | decide) (hy := by first | exact map_at hp | exact map_at hq)) ?_
        first | refine vy (k_ldr T.ts_27) ?_ | refine vy (k_lda T.ts_27) ?_
        refine vs (b_alloc (hz := T.zo_27)) ?_
        refine vs (b_store T.ts_27) ?_
        refine vl_nil ?_
        refine vc_then ?_
        refine vc_region ?_
        refine vy a_move ?_
        first | refine vy (k_ldr T.ts_27) ?_ | refine vy (k_lda T.ts_27) ?_
        refine vy (a_call (hf := T.en_69) (hc := by exact schemaWith_any _ _ hok (haok _ (List.mem_of_getElem? hq)))) ?_
        refine vy a_move ?_
        refine vy a_ext ?_
        refine vy a_ext ?_
        refine vy a_assign ?_
        refine vy a_assign ?_
        refine vl_nil ?_
        refine vc_then ?_
        refine vc_region ?_
        refine vy a_move ?_
        refine vy (a_bin (hr := by first | exact pr_add1 (by omega) | exact pr_neq | exact pr_nes | exact pr_neb Try.underlying35)) ?_
        refine vl_nil ?_
        refine vif (fun hc8 => ?_) (fun hc8 => ?_)
        · -- yes
         have hw0 : ¬ (withS u.2 q).2 = 0 := by simpa using hc8
         have hW : withAll s.2 (arrS l x).1 = ([], 16) := by rw [hv, drop_at hq]; exact withAll_hit hw0
         refine vc_then ?_
         refine vc_region ?_
         refine vy a_assign ?_
         refine vy a_assign ?_
         refine vl_nil ?_
         refine vc_ret ?_
         refine fin ?_
         simp only [fitsL, fits, C.asD, and_true]
         all_goals (first | (rw [app_5 h5]; exact ⟨rfl, rfl⟩) | (rw [app_arr hl hx har]; exact ⟨rfl, rfl⟩) | (rw [app_with hl hx har hD, hW]; exact ⟨rfl, rfl⟩) | (rw [app_del hl hx har hD]; exact ⟨rfl, rfl⟩))
        · -- no
         have hw0 : (withS u.2 q).2 = 0 := by simpa using hc8
         refine vc_skip ?_
         refine vc_region ?_
         refine vy (a_bin (hr := by first | exact pr_add1 (by omega) | exact pr_add (by first | exact wrap64 _ (by (first | omega | (simp only [List.length_map, List.length_append, List.length_nil, List.length_cons]; omega))) | rfl) | exact pr_cat (by (first | omega | (simp only [List.length_map, List.length_append, List.length_nil, List.length_cons]; omega))))) ?_
         refine vy a_move ?_
         refine vl_nil ?_
         refine ⟨_, ?_, (u.1 + 1, (withS u.2 q).1), ⟨lt_len hq, okL_with hok (haok _ (List.mem_of_getElem? hq)), by rw [hv, drop_at hq]; exact withAll_next hw0⟩, rfl, ?_⟩
         · --
          have := lt_len hq; (try dsimp only); omega
         · --
          repeat (first | exact sub_keep_nil | refine su ?_ | refine sk ?_)
       · -- no
        have hW : withAll s.2 (arrS l x).1 = (u.2, 0) := with_end (past_end hc7) hv
        refine vc_exit ?_
        refine vc_then ?_
        refine vc_region ?_
        refine vy a_move ?_
        refine vy a_assign ?_
        refine vy a_assign ?_
        refine vl_nil ?_
        refine vc_ret ?_
        refine fin ?_
        simp only [fitsL, fits, C.asD, and_true]
        all_goals (first | (rw [app_5 h5]; exact ⟨rfl, rfl⟩) | (rw [app_arr hl hx har]; exact ⟨rfl, rfl⟩) | (rw [app_with hl hx har hD, hW]; exact ⟨rfl, rfl⟩) | (rw [app_del hl hx har hD]; exact ⟨rfl, rfl⟩))
end Go.Vm
