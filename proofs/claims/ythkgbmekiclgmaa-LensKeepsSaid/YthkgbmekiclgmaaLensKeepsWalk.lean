/- The walk of LensKeeps. Printed by lens_laws.py. -/
import Derived.Test.YthkgbmekiclgmaaLnApply
import Derived.Test.YthkgbmekiclgmaaLnAwake
import Derived.Test.YthkgbmekiclgmaaLnCells
namespace Go.Vm
open Go.RowKit Go.Proofs
set_option linter.unusedVariables false
set_option linter.unusedSimpArgs false
set_option maxRecDepth 10000

theorem comes_len (x : LensD) : (comesL x).length ≤ 2 := by unfold comesL; (repeat' split) <;> simp

set_option maxHeartbeats 1000000 in
theorem hasRef_any (l : List RefD) (r : RefD) (hl : l.length ≤ 1000) : Contract Try.prog 23 [.row (l.map rD), rD r] [.d (.sc (.bool (decide (r ∈ l))))] := by
 refine fn_of (N := 18) [.tmp 4] Try.func23 ?_
 simp only [envUp, Nat.zero_add, Nat.reduceAdd]
 refine vc_then ?_
 refine vc_region ?_
 refine vs b_box ?_
 refine vy a_assign ?_
 refine vl_nil ?_
 refine vc_then ?_
 refine vc_then ?_
 refine vc_region ?_
 refine vy a_assign ?_
 refine vl_nil ?_
 refine vc_block ?_
 refine vk [0, 3] (fun (k : Nat) e => upd (e) (some 5) (.c (.d (.sc (.int .i64 (k : Nat)))))) (fun k => k ≤ l.length ∧ r ∉ l.take k) (fun k => l.length - k) 0 ⟨Nat.zero_le _, by simp⟩ ?_ ?_
 · --
  repeat (first | exact sub_keep_nil | refine su ?_ | refine sk ?_)
 · --
  rintro k ⟨hk, hi⟩
  refine vc_then ?_
  refine vc_then ?_
  refine vc_region ?_
  refine vy a_move ?_
  refine vy a_move ?_
  refine vy (a_len (hT := T.es_40)) ?_
  refine vy (a_bin (hr := by first | exact pr_lss | exact pr_lts)) ?_
  refine vl_nil ?_
  refine vif (fun hc1 => ?_) (fun hc1 => ?_)
  · -- yes
   obtain ⟨p, hp⟩ := elem_at hc1
   have hkl := lt_len hp
   refine vc_skip ?_
   refine vc_then ?_
   refine vc_block ?_
   refine vc_then ?_
   refine vc_drawn0 T.mixed ?_
   refine qy a_move ?_
   refine qy a_move ?_
   refine qy (a_ix (hT := T.es_40) (h0 := by first | omega | decide) (hy := by exact map_at hp)) ?_
   first | refine qy (k_ldr T.ts_24) ?_ | refine qy (k_lda T.ts_24) ?_
   first | refine qy (k_ldr T.ts_24) ?_ | refine qy (k_lda T.ts_24) ?_
   refine qy eq_24 ?_
   show _
   refine vif (fun hc2 => ?_) (fun hc2 => ?_)
   · -- yes
    refine vc_then ?_
    refine vc_region ?_
    refine vy a_assign ?_
    refine vl_nil ?_
    refine vc_ret ?_
    refine fin ?_
    simp only [fitsL, fits, C.asD, and_true]
    all_goals (refine scb ?_; first | (refine (decide_eq_true (?_ : r ∈ l)).symm; have h := of_decide_eq_true ‹decide (p = r) = true›; rw [← h]; exact List.mem_of_getElem? hp) | exact (decide_eq_false (not_mem_end (past_end (by assumption)) hi)).symm)
   · -- no
    refine vc_skip ?_
    refine vc_region ?_
    refine vy a_move ?_
    refine vy (a_bin (hr := by first | exact pr_add (by first | exact wrap64 _ (by (first | omega | (simp only [List.length_map, List.length_append, List.length_nil, List.length_cons]; omega))) | rfl) | exact pr_cat (by (first | omega | (simp only [List.length_map, List.length_append, List.length_nil, List.length_cons]; omega))))) ?_
    refine vy a_assign ?_
    refine vl_nil ?_
    refine ⟨_, ?_, (k + 1), ⟨lt_len hp, not_mem_next hp hi (fun e => by simp_all)⟩, rfl, ?_⟩
    · --
     have := lt_len hp; omega
    · --
     repeat (first | exact sub_keep_nil | refine su ?_ | refine sk ?_)
  · -- no
   refine vc_exit ?_
   refine vc_then ?_
   refine vc_region ?_
   refine vy a_assign ?_
   refine vl_nil ?_
   refine vc_ret ?_
   refine fin ?_
   simp only [fitsL, fits, C.asD, and_true]
   all_goals (refine scb ?_; first | (refine (decide_eq_true (?_ : r ∈ l)).symm; have h := of_decide_eq_true ‹decide (p = r) = true›; rw [← h]; exact List.mem_of_getElem? hp) | exact (decide_eq_false (not_mem_end (past_end (by assumption)) hi)).symm)

set_option maxHeartbeats 1000000 in
theorem lensKeeps_any (l : List FieldD) (x : LensD) (r : RefD) : Contract Try.prog 4 [.row (l.map fD), lD x, rD r] [.d (.sc (.bool (true)))] := by
 refine fn_of (N := 99) [.tmp 6] Try.func4 ?_
 simp only [envUp, Nat.zero_add, Nat.reduceAdd]
 refine vc_then ?_
 refine vc_region ?_
 refine vs b_box ?_
 refine vs b_box ?_
 refine vy a_assign ?_
 refine vl_nil ?_
 refine vc_then ?_
 refine vc_then ?_
 refine vc_region ?_
 refine vy (a_call (hf := T.en_11) (hc := by exact awake_any)) ?_
 refine vy a_not ?_
 refine vl_nil ?_
 refine vif (fun hc1 => ?_) (fun hc1 => ?_)
 · -- yes
  exact absurd hc1 (by simp)
 · -- no
  refine vc_skip ?_
  refine vc_then ?_
  refine vc_then ?_
  refine vc_region ?_
  refine vy a_move ?_
  refine vy (a_call (hf := T.en_12) (hc := by exact refSchemaHeavy_any _)) ?_
  refine vy a_move ?_
  refine vb 20 (fun hg2 => ?_) (fun hg2 => ?_)
  · -- guard yes
   refine vn ?_
   refine vn ?_
   refine vy a_pick ?_
   refine vl_nil ?_
   refine vif (fun hc3 => ?_) (fun hc3 => ?_)
   · -- yes
    refine vc_then ?_
    refine vc_region ?_
    refine vy a_assign ?_
    refine vl_nil ?_
    refine vc_ret ?_
    refine fin ?_
    simp only [fitsL, fits, C.asD, and_true]
    all_goals (first | rfl | (rw [hnil]; rfl) | (rw [← hfs]; refine scb ?_; simp; done) | (exfalso; clear hst hcm hm hlen; simp_all; done))
   · -- no
    first | (exfalso; have hdead := hc3; simp at hdead <;> omega) | (exfalso; simp_all; done)
  · -- guard no
   first | refine vy (k_ldr T.ts_30) ?_ | refine vy (k_lda T.ts_30) ?_
   refine vy (a_call (hf := T.en_13) (hc := by exact refLensHeavy_any _)) ?_
   refine vy a_pick ?_
   refine vl_nil ?_
   refine vif (fun hc4 => ?_) (fun hc4 => ?_)
   · -- yes
    refine vc_then ?_
    refine vc_region ?_
    refine vy a_assign ?_
    refine vl_nil ?_
    refine vc_ret ?_
    refine fin ?_
    simp only [fitsL, fits, C.asD, and_true]
    all_goals (first | rfl | (rw [hnil]; rfl) | (rw [← hfs]; refine scb ?_; simp; done) | (exfalso; clear hst hcm hm hlen; simp_all; done))
   · -- no
    have ho : okL l := heavyS_ok (by simp_all)
    have hx0 : okX x := heavyL_ok (by simp_all)
    have hom := okL_apply ho hx0
    refine vc_skip ?_
    refine vc_then ?_
    refine vc_region ?_
    refine vy a_move ?_
    first | refine vy (k_ldr T.ts_30) ?_ | refine vy (k_lda T.ts_30) ?_
    refine vy (a_call (hf := T.en_15) (hc := by exact apply_any _ _ ho hx0)) ?_
    refine vy a_move ?_
    refine vy a_ext ?_
    refine vy a_ext ?_
    refine vy a_assign ?_
    refine vy a_assign ?_
    refine vl_nil ?_
    refine vc_then ?_
    refine vc_then ?_
    refine vc_region ?_
    refine vy a_move ?_
    refine vy (a_bin (hr := by first | exact pr_add1 (by omega) | exact pr_neq | exact pr_nes | exact pr_neb Try.underlying35)) ?_
    refine vl_nil ?_
    refine vif (fun hc5 => ?_) (fun hc5 => ?_)
    · -- yes
     have he : ¬ (applyS l x).2 = 0 := by simpa using hc5
     have hnil := apply_err he
     refine vc_then ?_
     refine vc_region ?_
     refine vy a_move ?_
     refine vy (a_len (hT := T.es_22)) ?_
     refine vy (a_bin (hr := by first | exact pr_add1 (by omega) | exact pr_eql | exact pr_eqs | exact pr_eqb Try.underlying3)) ?_
     refine vy a_assign ?_
     refine vl_nil ?_
     refine vc_ret ?_
     refine fin ?_
     simp only [fitsL, fits, C.asD, and_true]
     all_goals (first | rfl | (rw [hnil]; rfl) | (rw [← hfs]; refine scb ?_; simp; done) | (exfalso; clear hst hcm hm hlen; simp_all; done))
    · -- no
     have he : (applyS l x).2 = 0 := by simpa using hc5
     obtain ⟨hl, hx, hm, hlen, hcm, hst⟩ := keeps (l := l) (x := x) (m := (applyS l x).1) (by rw [← he])
     have hgl := goes_len x
     have hcl := comes_len x
     have hl1 := ho.1
     have hm1 := hom.1
     refine vc_skip ?_
     refine vc_then ?_
     refine vc_then ?_
     refine vc_region ?_
     refine vy a_move ?_
     refine vy (a_call (hf := T.en_18) (hc := by exact schemaRight_any _ hom)) ?_
     refine vy a_not ?_
     refine vy a_move ?_
     refine vb 38 (fun hg6 => ?_) (fun hg6 => ?_)
     · -- guard yes
      refine vn ?_
      refine vn ?_
      refine vn ?_
      refine vy a_pick ?_
      refine vl_nil ?_
      refine vif (fun hc7 => ?_) (fun hc7 => ?_)
      · -- yes
       exfalso; clear hst hcm; simp_all
      · -- no
       first | (exfalso; have hdead := hc7; simp at hdead <;> omega) | (exfalso; simp_all; done)
     · -- guard no
      refine vy a_move ?_
      refine vy (a_call (hf := T.en_19) (hc := by exact refSchemaRight_any _ ho)) ?_
      refine vy a_not ?_
      refine vy a_pick ?_
      refine vl_nil ?_
      refine vif (fun hc8 => ?_) (fun hc8 => ?_)
      · -- yes
       exfalso; clear hst hcm; simp_all
      · -- no
       refine vc_skip ?_
       refine vc_then ?_
       refine vc_drawn0 T.mixed ?_
       first | refine qy (k_ldr T.ts_30) ?_ | refine qy (k_lda T.ts_30) ?_
       refine qy (a_call (hf := T.en_20) (hc := by exact lensGoes_at _ hx0 hx)) ?_
       first | refine qy (k_ldr T.ts_30) ?_ | refine qy (k_lda T.ts_30) ?_
       refine qy (a_call (hf := T.en_21) (hc := by exact lensComes_at _ hx0 hx)) ?_
       refine qy a_assign ?_
       refine qy a_assign ?_
       show _
       refine vc_then ?_
       refine vc_then ?_
       refine vc_region ?_
       refine vy a_move ?_
       refine vy (a_len (hT := T.es_22)) ?_
       refine vy a_move ?_
       refine vy (a_len (hT := T.es_22)) ?_
       refine vy a_move ?_
       refine vy (a_len (hT := T.es_40)) ?_
       refine vy (a_bin (hr := by first | exact pr_add1 (by omega) | exact pr_sub (by first | exact wrap64 _ (by (first | omega | (simp only [List.length_map, List.length_append, List.length_nil, List.length_cons]; omega))) | rfl))) ?_
       refine vy a_move ?_
       refine vy (a_len (hT := T.es_40)) ?_
       refine vy (a_bin (hr := by first | exact pr_add1 (by omega) | exact pr_add (by first | exact wrap64 _ (by (first | omega | (simp only [List.length_map, List.length_append, List.length_nil, List.length_cons]; omega))) | rfl) | exact pr_cat (by (first | omega | (simp only [List.length_map, List.length_append, List.length_nil, List.length_cons]; omega))))) ?_
       refine vy (a_bin (hr := by first | exact pr_add1 (by omega) | exact pr_neq | exact pr_nes | exact pr_neb Try.underlying3)) ?_
       refine vl_nil ?_
       refine vif (fun hc9 => ?_) (fun hc9 => ?_)
       · -- yes
        exfalso; have hdead := hc9; simp at hdead <;> omega
       · -- no
        refine vc_skip ?_
        refine vc_then ?_
        refine vc_then ?_
        refine vc_region ?_
        refine vy a_assign ?_
        refine vl_nil ?_
        refine vc_block ?_
        refine vk [0, 5, 7, 9, 10] (fun (k : Nat) e => upd (e) (some 11) (.c (.d (.sc (.int .i64 (k : Nat)))))) (fun k => k ≤ (comesL x).length) (fun k => (comesL x).length - k) 0 (Nat.zero_le _) ?_ ?_
        · --
         repeat (first | exact sub_keep_nil | refine su ?_ | refine sk ?_)
        · --
         rintro k hk
         refine vc_then ?_
         refine vc_then ?_
         refine vc_region ?_
         refine vy a_move ?_
         refine vy a_move ?_
         refine vy (a_len (hT := T.es_40)) ?_
         refine vy (a_bin (hr := by first | exact pr_add1 (by omega) | exact pr_lss | exact pr_lts)) ?_
         refine vl_nil ?_
         refine vif (fun hc10 => ?_) (fun hc10 => ?_)
         · -- yes
          obtain ⟨p, hp⟩ := elem_at hc10
          have hkl := lt_len hp
          have hin := hcm p (List.mem_of_getElem? hp)
          refine vc_skip ?_
          refine vc_then ?_
          refine vc_block ?_
          refine vc_then ?_
          refine vc_region ?_
          refine vy a_move ?_
          refine vy a_move ?_
          refine vy a_move ?_
          refine vy (a_ix (hT := T.es_40) (h0 := by first | omega | decide) (hy := by first | exact map_at hp)) ?_
          first | refine vy (k_ldr T.ts_24) ?_ | refine vy (k_lda T.ts_24) ?_
          refine vy (a_call (hf := T.en_22) (hc := by exact refSchemaAt_any _ _ hom.1)) ?_
          refine vy (a_bin (hr := by first | exact pr_add1 (by omega) | exact pr_lss | exact pr_lts)) ?_
          refine vl_nil ?_
          refine vif (fun hc11 => ?_) (fun hc11 => ?_)
          · -- yes
           exfalso; have hdead := hc11; simp at hdead <;> omega
          · -- no
           refine vc_skip ?_
           refine vc_region ?_
           refine vy a_move ?_
           refine vy (a_bin (hr := by first | exact pr_add1 (by omega) | exact pr_add (by first | exact wrap64 _ (by (first | omega | (simp only [List.length_map, List.length_append, List.length_nil, List.length_cons]; omega))) | rfl) | exact pr_cat (by (first | omega | (simp only [List.length_map, List.length_append, List.length_nil, List.length_cons]; omega))))) ?_
           refine vy a_assign ?_
           refine vl_nil ?_
           refine ⟨_, ?_, (k + 1), (lt_len hp), rfl, ?_⟩
           · --
            have := lt_len hp; omega
           · --
            repeat (first | exact sub_keep_nil | refine su ?_ | refine sk ?_)
         · -- no
          refine vc_exit ?_
          refine vc_then ?_
          refine vc_then ?_
          refine vc_region ?_
          refine vy a_move ?_
          first | refine vy (k_ldr T.ts_24) ?_ | refine vy (k_lda T.ts_24) ?_
          refine vy (a_call (hf := T.en_23) (hc := by exact hasRef_any _ _ (by omega))) ?_
          refine vy a_move ?_
          refine vb 74 (fun hg12 => ?_) (fun hg12 => ?_)
          · -- guard yes
           refine vn ?_
           refine vn ?_
           refine vn ?_
           refine vy a_pick ?_
           refine vl_nil ?_
           refine vif (fun hc13 => ?_) (fun hc13 => ?_)
           · -- yes
            refine vc_then ?_
            refine vc_region ?_
            refine vy a_assign ?_
            refine vl_nil ?_
            refine vc_ret ?_
            refine fin ?_
            simp only [fitsL, fits, C.asD, and_true]
            all_goals (first | rfl | (rw [hnil]; rfl) | (rw [← hfs]; refine scb ?_; simp; done) | (exfalso; clear hst hcm hm hlen; simp_all; done))
           · -- no
            first | (exfalso; have hdead := hc13; simp at hdead <;> omega) | (exfalso; simp_all; done)
          · -- guard no
           have hng : r ∉ goesL x := of_decide_eq_false hg12
           refine vy a_move ?_
           first | refine vy (k_ldr T.ts_24) ?_ | refine vy (k_lda T.ts_24) ?_
           refine vy (a_call (hf := T.en_23) (hc := by exact hasRef_any _ _ (by omega))) ?_
           refine vy a_pick ?_
           refine vl_nil ?_
           refine vif (fun hc14 => ?_) (fun hc14 => ?_)
           · -- yes
            refine vc_then ?_
            refine vc_region ?_
            refine vy a_assign ?_
            refine vl_nil ?_
            refine vc_ret ?_
            refine fin ?_
            simp only [fitsL, fits, C.asD, and_true]
            all_goals (first | rfl | (rw [hnil]; rfl) | (rw [← hfs]; refine scb ?_; simp; done) | (exfalso; clear hst hcm hm hlen; simp_all; done))
           · -- no
            have hfs := hst r hng (of_decide_eq_false hc14)
            refine vc_skip ?_
            refine vc_then ?_
            refine vc_region ?_
            refine vy a_move ?_
            first | refine vy (k_ldr T.ts_24) ?_ | refine vy (k_lda T.ts_24) ?_
            refine vy (a_call (hf := T.en_24) (hc := by first | exact schemaFind_any l _ ho | exact schemaFind_any _ _ hom)) ?_
            refine vy a_move ?_
            refine vy a_ext ?_
            refine vy a_ext ?_
            refine vs (b_alloc (hz := T.zo_27)) ?_
            refine vs (b_store T.ts_27) ?_
            refine vy a_assign ?_
            refine vl_nil ?_
            refine vc_then ?_
            refine vc_region ?_
            refine vy a_move ?_
            first | refine vy (k_ldr T.ts_24) ?_ | refine vy (k_lda T.ts_24) ?_
            refine vy (a_call (hf := T.en_24) (hc := by first | exact schemaFind_any l _ ho | exact schemaFind_any _ _ hom)) ?_
            refine vy a_move ?_
            refine vy a_ext ?_
            refine vy a_ext ?_
            refine vs (b_alloc (hz := T.zo_27)) ?_
            refine vs (b_store T.ts_27) ?_
            refine vy a_assign ?_
            refine vl_nil ?_
            refine vc_then ?_
            refine vc_region ?_
            refine vy a_move ?_
            refine vy a_move ?_
            refine vy (a_bin (hr := by first | exact pr_add1 (by omega) | exact pr_eql | exact pr_eqs | exact pr_eqb Try.underlying35)) ?_
            refine vy a_move ?_
            refine vb 94 (fun hg15 => ?_) (fun hg15 => ?_)
            · -- guard yes
             first | refine vy (k_ldr T.ts_27) ?_ | refine vy (k_lda T.ts_27) ?_
             first | refine vy (k_ldr T.ts_27) ?_ | refine vy (k_lda T.ts_27) ?_
             refine vy (a_call (hf := T.en_25) (hc := by exact refFieldSame_any _ _ (find_ok ho))) ?_
             refine vy a_pick ?_
             refine vy a_assign ?_
             refine vl_nil ?_
             refine vc_ret ?_
             refine fin ?_
             simp only [fitsL, fits, C.asD, and_true]
             all_goals (first | rfl | (rw [hnil]; rfl) | (rw [← hfs]; refine scb ?_; simp; done) | (exfalso; clear hst hcm hm hlen; simp_all; done))
            · -- guard no
             refine vn ?_
             refine vn ?_
             refine vn ?_
             refine vy a_pick ?_
             refine vy a_assign ?_
             refine vl_nil ?_
             refine vc_ret ?_
             refine fin ?_
             simp only [fitsL, fits, C.asD, and_true]
             all_goals (first | rfl | (rw [hnil]; rfl) | (rw [← hfs]; refine scb ?_; simp; done) | (exfalso; clear hst hcm hm hlen; simp_all; done))

end Go.Vm
namespace Go.Proofs.Ythkgbmekiclgmaa
open Go.RowKit Go.Vm
theorem lensKeeps_walk (a0 : Option Addr) (l0 c0 : Nat) (s1 : Array Value) (s2 : Array Value) (w : World) (r0 : Reads Try.prog w 22 [.slice a0 l0 c0]) (r1 : Reads Try.prog w 30 s1.toList) (r2 : Reads Try.prog w 24 s2.toList) :
    Calls Try.prog 4 #[.slice a0 l0 c0, .agg s1, .agg s2] w fun e w' => e = .returned (.bool true) ∧ Below w.heap.size w w' := by
  obtain ⟨xs, hx, _⟩ := row_of Try.underlying22 (show Try.prog.cellsOf 27 = 7 from by kernel_rfl) (by omega) (fun _ => rfl) (field_cells w) r0
  obtain ⟨x, hs, _⟩ := lens_cells w _ r1
  have hs := rep_agg hs
  obtain ⟨r, hr, _⟩ := ref_cells w _ r2
  have hr := rep_agg hr
  refine law_true (lensKeeps_any xs x r) rfl ?_
  intro i v d hv hd
  match i, hv, hd with
  | 0, hv, hd => simp at hv hd; subst hv hd; exact hx
  | 1, hv, hd => simp at hv hd; subst hv hd; exact hs
  | 2, hv, hd => simp at hv hd; subst hv hd; exact hr
  | i + 3, hv, _ => simp at hv
end Go.Proofs.Ythkgbmekiclgmaa
namespace Go.Vm

end Go.Vm
