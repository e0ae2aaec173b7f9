/- The walks of tables. Printed by lens_lens.py. -/
import Derived.Test.YthkgbmekiclgmaaLnSchema3
import Derived.Test.YthkgbmekiclgmaaLnHeavy
import Derived.Test.YthkgbmekiclgmaaLnLens2P
namespace Go.Vm
open Go.RowKit Go.Proofs
set_option linter.unusedVariables false
set_option linter.unusedSimpArgs false
set_option maxRecDepth 10000

theorem pairs_wide {l : List (ByteArray × ByteArray)} : ∀ x ∈ l.map pairD, x.cells.length = 2 := by
  intro x hx; obtain ⟨y, _, rfl⟩ := List.mem_map.1 hx; rfl
theorem rs_wide {l : List RefD} : ∀ x ∈ l.map rD, x.cells.length = 3 := by
  intro x hx; obtain ⟨y, _, rfl⟩ := List.mem_map.1 hx; rfl
theorem find_none {l : List (ByteArray × ByteArray)} {s : ByteArray} {k : Nat} {p : ByteArray × ByteArray} (hp : l[k]? = some p) (h : (l.take k).find? (fun p => decide (p.1 = s)) = none) (hn : decide (p.1 = s) = false) : (l.take (k + 1)).find? (fun p => decide (p.1 = s)) = none := by
  rw [List.take_add_one, hp, List.find?_append, h]; simp [hn]
theorem case_hit {l : List (ByteArray × ByteArray)} {s : ByteArray} {k : Nat} {p : ByteArray × ByteArray} (hp : l[k]? = some p) (h : (l.take k).find? (fun p => decide (p.1 = s)) = none) (hn : decide (p.1 = s) = true) : caseT l s = (p.2, true) := by
  obtain ⟨hlt, hpe⟩ := List.getElem?_eq_some_iff.1 hp
  have e : l = l.take k ++ p :: l.drop (k + 1) := by rw [← hpe, ← List.drop_eq_getElem_cons hlt, List.take_append_drop]
  unfold caseT
  rw [e, List.find?_append, h]; simp [hn]
theorem case_miss {l : List (ByteArray × ByteArray)} {s : ByteArray} {k : Nat} (hk : l.length ≤ k) (h : (l.take k).find? (fun p => decide (p.1 = s)) = none) : caseT l s = (noB, false) := by
  rw [List.take_of_length_le hk] at h
  unfold caseT; rw [h]
theorem froms_next {l : List (ByteArray × ByteArray)} {k : Nat} {p : ByteArray × ByteArray} (hp : l[k]? = some p) : froms (l.take (k + 1)) = froms (l.take k) ++ [p.1] := by
  unfold froms; rw [take_next hp]; simp
theorem froms_len {l : List (ByteArray × ByteArray)} {k n : Nat} (h : l.length ≤ n) : (froms (l.take k)).length ≤ n := by unfold froms; rw [List.length_map]; exact length_take_le h
theorem take_length {α : Type} {l : List α} {k : Nat} (h : k < l.length) : (l.take k).length = k := by rw [List.length_take]; omega
def heavyP (l : List (ByteArray × ByteArray)) : Bool := decide (20 < l.length) || l.any (fun p => decide (200 < p.1.size) || decide (200 < p.2.size))
theorem heavyP_ok {l : List (ByteArray × ByteArray)} (h : heavyP l = false) : l.length ≤ 20 := by unfold heavyP at h; simp only [Bool.or_eq_false_iff, decide_eq_false_iff_not] at h; omega
def heavyL (x : LensD) : Bool := decide (200 < x.at_.group.size) || decide (200 < x.at_.name.size) || decide (200 < x.name.size) || decide (200 < x.other.size) || heavyF x.field || heavyP x.forth || heavyP x.back
theorem heavyL_ok {x : LensD} (h : heavyL x = false) : okX x := by
  unfold heavyL at h; simp only [Bool.or_eq_false_iff] at h
  have h1 := heavyF_ok h.1.1.2
  have h2 := heavyP_ok h.1.2
  have h3 := heavyP_ok h.2
  exact ⟨by omega, by omega, by omega⟩

theorem froms_no {l : List (ByteArray × ByteArray)} {s : ByteArray} {j : Nat} {q : ByteArray × ByteArray} (hq : l[j]? = some q) (h : s ∉ froms (l.take j)) (hn : decide (q.1 = s) = false) : s ∉ froms (l.take (j + 1)) := by
  rw [froms_next hq, List.mem_append, List.mem_singleton]
  rintro (k | k)
  · exact h k
  · exact of_decide_eq_false hn k.symm
theorem froms_mem {l : List (ByteArray × ByteArray)} {s : ByteArray} {j : Nat} {q : ByteArray × ByteArray} (hq : l[j]? = some q) (h : q.1 = s) : s ∈ froms l := by
  rw [← h]; exact List.mem_map.2 ⟨q, List.mem_of_getElem? hq, rfl⟩

set_option maxHeartbeats 1000000 in
theorem case_any (l : (List (ByteArray × ByteArray))) (s : ByteArray) (hl : l.length ≤ 1000) : Contract Try.prog 26 [.row (l.map pairD), .sc (.string s)] [.d (.sc (.string (caseT l s).1)), .d (.sc (.bool (caseT l s).2))] := by
 refine fn_of (N := 21) [.tmp 4, .tmp 5] Try.func26 ?_
 simp only [envUp, Nat.zero_add, Nat.reduceAdd]
 refine vc_then ?_
 refine vc_region ?_
 refine vy a_assign ?_
 refine vy a_assign ?_
 refine vl_nil ?_
 refine vc_then ?_
 refine vc_then ?_
 refine vc_region ?_
 refine vy a_move ?_
 refine vy (a_len (hT := T.es_28)) ?_
 refine vy a_move ?_
 refine vl_nil ?_
 refine vc_block ?_
 refine vk [1, 8, 9] (fun (k : Nat) e => upd (e) (some 10) (.c (.d (.sc (.int .i64 (k : Nat)))))) (fun k => k ≤ l.length ∧ (l.take k).find? (fun p => decide (p.1 = s)) = none) (fun k => l.length - k) 0 ⟨Nat.zero_le _, rfl⟩ ?_ ?_
 · --
  repeat (first | exact sub_keep_nil | refine su ?_ | refine sk ?_)
 · --
  rintro k ⟨hk, hi⟩
  refine vc_then ?_
  refine vc_region ?_
  refine vy (a_bin (hr := by first | exact pr_lss | exact pr_lts)) ?_
  refine vl_nil ?_
  refine vc_then ?_
  refine vif (fun hc1 => ?_) (fun hc1 => ?_)
  · -- yes
   obtain ⟨p, hp⟩ := elem_at hc1
   have hkl := lt_len hp
   refine vc_skip ?_
   refine vc_then ?_
   refine vc_block ?_
   refine vc_then ?_
   refine vc_region ?_
   refine vy (a_ix (hT := T.es_28) (h0 := by first | omega | decide) (hy := by exact map_at hp)) ?_
   first | refine vy (k_ldr T.ts_55) ?_ | refine vy (k_lda T.ts_55) ?_
   refine vs (b_alloc (hz := T.zo_55)) ?_
   refine vs (b_store T.ts_55) ?_
   refine vl_nil ?_
   refine vc_then ?_
   refine vc_region ?_
   first | refine vy (a_fr (hf := T.fo_55_0)) ?_ | refine vy (a_fa (hf := T.fo_55_0)) ?_
   first | refine vy (k_ldr T.ts_9) ?_ | refine vy (k_lda T.ts_9) ?_
   refine vy a_move ?_
   refine vy (a_bin (hr := by first | exact pr_eql | exact pr_eqs | exact pr_eqb Try.underlying9)) ?_
   refine vl_nil ?_
   refine vif (fun hc2 => ?_) (fun hc2 => ?_)
   · -- yes
    refine vc_then ?_
    refine vc_region ?_
    first | refine vy (a_fr (hf := T.fo_55_1)) ?_ | refine vy (a_fa (hf := T.fo_55_1)) ?_
    first | refine vy (k_ldr T.ts_9) ?_ | refine vy (k_lda T.ts_9) ?_
    refine vy a_assign ?_
    refine vy a_assign ?_
    refine vl_nil ?_
    refine vc_ret ?_
    refine fin ?_
    simp only [fitsL, fits, C.asD, and_true]
    all_goals (first | (rw [case_hit hp hi (by assumption)]; exact ⟨rfl, rfl⟩) | (rw [case_miss (past_end (by assumption)) hi]; exact ⟨rfl, rfl⟩))
   · -- no
    refine vc_skip ?_
    refine vc_region ?_
    refine vy (a_bin (hr := by first | exact pr_add (by first | exact wrap64 _ (by (first | omega | (simp only [List.length_map, List.length_append, List.length_nil, List.length_cons]; omega))) | rfl) | exact pr_cat (by (first | omega | (simp only [List.length_map, List.length_append, List.length_nil, List.length_cons]; omega))))) ?_
    refine vy a_move ?_
    refine vl_nil ?_
    refine ⟨_, ?_, (k + 1), ⟨lt_len hp, find_none hp hi (by assumption)⟩, rfl, ?_⟩
    · --
     have := lt_len hp; omega
    · --
     repeat (first | exact sub_keep_nil | refine su ?_ | refine sk ?_)
  · -- no
   refine vc_exit ?_
   refine vc_then ?_
   refine vc_region ?_
   refine vy a_assign ?_
   refine vy a_assign ?_
   refine vl_nil ?_
   refine vc_ret ?_
   refine fin ?_
   simp only [fitsL, fits, C.asD, and_true]
   all_goals (first | (rw [case_hit hp hi (by assumption)]; exact ⟨rfl, rfl⟩) | (rw [case_miss (past_end (by assumption)) hi]; exact ⟨rfl, rfl⟩))

set_option maxHeartbeats 1000000 in
theorem refCase_any (l : (List (ByteArray × ByteArray))) (s : ByteArray) (hl : l.length ≤ 1000) : Contract Try.prog 27 [.row (l.map pairD), .sc (.string s)] [.d (.sc (.string (caseT l s).1)), .d (.sc (.bool (caseT l s).2))] := by
 refine fn_of (N := 25) [.tmp 4, .tmp 5] Try.func27 ?_
 simp only [envUp, Nat.zero_add, Nat.reduceAdd]
 refine vc_then ?_
 refine vc_region ?_
 refine vy a_assign ?_
 refine vy a_assign ?_
 refine vl_nil ?_
 refine vc_then ?_
 refine vc_then ?_
 refine vc_region ?_
 refine vy a_assign ?_
 refine vl_nil ?_
 refine vc_block ?_
 refine vk [0, 1] (fun (k : Nat) e => upd (e) (some 6) (.c (.d (.sc (.int .i64 (k : Nat)))))) (fun k => k ≤ l.length ∧ (l.take k).find? (fun p => decide (p.1 = s)) = none) (fun k => l.length - k) 0 ⟨Nat.zero_le _, rfl⟩ ?_ ?_
 · --
  repeat (first | exact sub_keep_nil | refine su ?_ | refine sk ?_)
 · --
  rintro k ⟨hk, hi⟩
  refine vc_then ?_
  refine vc_then ?_
  refine vc_region ?_
  refine vy a_move ?_
  refine vy a_move ?_
  refine vy (a_len (hT := T.es_28)) ?_
  refine vy (a_bin (hr := by first | exact pr_lss | exact pr_lts)) ?_
  refine vl_nil ?_
  refine vif (fun hc1 => ?_) (fun hc1 => ?_)
  · -- yes
   obtain ⟨p, hp⟩ := elem_at hc1
   have hkl := lt_len hp
   refine vc_skip ?_
   refine vc_then ?_
   refine vc_block ?_
   refine vc_then ?_
   refine vc_region ?_
   refine vy a_move ?_
   refine vy a_move ?_
   refine vy (a_ix (hT := T.es_28) (h0 := by first | omega | decide) (hy := by exact map_at hp)) ?_
   first | refine vy (a_fr (hf := T.fo_55_0)) ?_ | refine vy (a_fa (hf := T.fo_55_0)) ?_
   first | refine vy (k_ldr T.ts_9) ?_ | refine vy (k_lda T.ts_9) ?_
   refine vy a_move ?_
   refine vy (a_bin (hr := by first | exact pr_eql | exact pr_eqs | exact pr_eqb Try.underlying9)) ?_
   refine vl_nil ?_
   refine vif (fun hc2 => ?_) (fun hc2 => ?_)
   · -- yes
    refine vc_then ?_
    refine vc_region ?_
    refine vy a_move ?_
    refine vy a_move ?_
    refine vy (a_ix (hT := T.es_28) (h0 := by first | omega | decide) (hy := by exact map_at hp)) ?_
    first | refine vy (a_fr (hf := T.fo_55_1)) ?_ | refine vy (a_fa (hf := T.fo_55_1)) ?_
    first | refine vy (k_ldr T.ts_9) ?_ | refine vy (k_lda T.ts_9) ?_
    refine vy a_assign ?_
    refine vy a_assign ?_
    refine vl_nil ?_
    refine vc_ret ?_
    refine fin ?_
    simp only [fitsL, fits, C.asD, and_true]
    all_goals (first | (rw [case_hit hp hi (by assumption)]; exact ⟨rfl, rfl⟩) | (rw [case_miss (past_end (by assumption)) hi]; exact ⟨rfl, rfl⟩))
   · -- no
    refine vc_skip ?_
    refine vc_region ?_
    refine vy a_move ?_
    refine vy (a_bin (hr := by first | exact pr_add (by first | exact wrap64 _ (by (first | omega | (simp only [List.length_map, List.length_append, List.length_nil, List.length_cons]; omega))) | rfl) | exact pr_cat (by (first | omega | (simp only [List.length_map, List.length_append, List.length_nil, List.length_cons]; omega))))) ?_
    refine vy a_assign ?_
    refine vl_nil ?_
    refine ⟨_, ?_, (k + 1), ⟨lt_len hp, find_none hp hi (by assumption)⟩, rfl, ?_⟩
    · --
     have := lt_len hp; omega
    · --
     repeat (first | exact sub_keep_nil | refine su ?_ | refine sk ?_)
  · -- no
   refine vc_exit ?_
   refine vc_then ?_
   refine vc_region ?_
   refine vy a_assign ?_
   refine vy a_assign ?_
   refine vl_nil ?_
   refine vc_ret ?_
   refine fin ?_
   simp only [fitsL, fits, C.asD, and_true]
   all_goals (first | (rw [case_hit hp hi (by assumption)]; exact ⟨rfl, rfl⟩) | (rw [case_miss (past_end (by assumption)) hi]; exact ⟨rfl, rfl⟩))

set_option maxHeartbeats 1000000 in
theorem samePairs_any (l m : (List (ByteArray × ByteArray))) (hl : l.length ≤ 1000) : Contract Try.prog 94 [.row (l.map pairD), .row (m.map pairD)] [.d (.sc (.bool (decide (l = m))))] := by
 refine fn_of (N := 26) [.tmp 4] Try.func94 ?_
 simp only [envUp, Nat.zero_add, Nat.reduceAdd]
 refine vc_then ?_
 refine vc_region ?_
 refine vy a_assign ?_
 refine vl_nil ?_
 refine vc_then ?_
 refine vc_then ?_
 refine vc_region ?_
 refine vy a_move ?_
 refine vy (a_len (hT := T.es_28)) ?_
 refine vy a_move ?_
 refine vy (a_len (hT := T.es_28)) ?_
 refine vy (a_bin (hr := by first | exact pr_neq | exact pr_nes | exact pr_neb Try.underlying3)) ?_
 refine vl_nil ?_
 refine vif (fun hc1 => ?_) (fun hc1 => ?_)
 · -- yes
  refine vc_then ?_
  refine vc_region ?_
  refine vy a_assign ?_
  refine vl_nil ?_
  refine vc_ret ?_
  refine fin ?_
  simp only [fitsL, fits, C.asD, and_true]
  all_goals (refine scb ?_; first | exact (decide_eq_false (fun e => by simp_all)).symm | exact (decide_eq_false (ne_at hp hq (fun e => by simp_all))).symm | exact (decide_eq_true (take_eq_end hlen (past_end (by assumption)) hi)).symm)
 · -- no
  have hlen : l.length = m.length := by have := hc1; simp at this; omega
  refine vc_skip ?_
  refine vc_then ?_
  refine vc_then ?_
  refine vc_region ?_
  refine vy a_move ?_
  refine vy (a_len (hT := T.es_28)) ?_
  refine vy a_move ?_
  refine vl_nil ?_
  refine vc_block ?_
  refine vk [0, 1, 12] (fun (k : Nat) e => upd (e) (some 13) (.c (.d (.sc (.int .i64 (k : Nat)))))) (fun k => k ≤ l.length ∧ l.take k = m.take k) (fun k => l.length - k) 0 ⟨Nat.zero_le _, rfl⟩ ?_ ?_
  · --
   repeat (first | exact sub_keep_nil | refine su ?_ | refine sk ?_)
  · --
   rintro k ⟨hk, hi⟩
   refine vc_then ?_
   refine vc_region ?_
   refine vy (a_bin (hr := by first | exact pr_lss | exact pr_lts)) ?_
   refine vl_nil ?_
   refine vc_then ?_
   refine vif (fun hc2 => ?_) (fun hc2 => ?_)
   · -- yes
    obtain ⟨p, hp⟩ := elem_at hc2
    have hkl := lt_len hp
    obtain ⟨q, hq⟩ := elem_too hp hlen
    refine vc_skip ?_
    refine vc_then ?_
    refine vc_block ?_
    refine vc_then ?_
    refine vc_region ?_
    refine vy a_move ?_
    refine vy a_assign ?_
    refine vl_nil ?_
    refine vc_then ?_
    refine vc_drawn0 T.mixed ?_
    refine qy a_move ?_
    refine qy a_move ?_
    refine qy (a_ix (hT := T.es_28) (h0 := by first | omega | decide) (hy := by first | exact map_at hp | exact map_at hq)) ?_
    first | refine qy (k_ldr T.ts_55) ?_ | refine qy (k_lda T.ts_55) ?_
    refine qy a_move ?_
    refine qy a_move ?_
    refine qy (a_ix (hT := T.es_28) (h0 := by first | omega | decide) (hy := by first | exact map_at hp | exact map_at hq)) ?_
    first | refine qy (k_ldr T.ts_55) ?_ | refine qy (k_lda T.ts_55) ?_
    refine qy ne_55 ?_
    show _
    refine vif (fun hc3 => ?_) (fun hc3 => ?_)
    · -- yes
     refine vc_then ?_
     refine vc_region ?_
     refine vy a_assign ?_
     refine vl_nil ?_
     refine vc_ret ?_
     refine fin ?_
     simp only [fitsL, fits, C.asD, and_true]
     all_goals (refine scb ?_; first | exact (decide_eq_false (fun e => by simp_all)).symm | exact (decide_eq_false (ne_at hp hq (fun e => by simp_all))).symm | exact (decide_eq_true (take_eq_end hlen (past_end (by assumption)) hi)).symm)
    · -- no
     refine vc_skip ?_
     refine vc_region ?_
     refine vy (a_bin (hr := by first | exact pr_add (by first | exact wrap64 _ (by (first | omega | (simp only [List.length_map, List.length_append, List.length_nil, List.length_cons]; omega))) | rfl) | exact pr_cat (by (first | omega | (simp only [List.length_map, List.length_append, List.length_nil, List.length_cons]; omega))))) ?_
     refine vy a_move ?_
     refine vl_nil ?_
     refine ⟨_, ?_, (k + 1), ⟨lt_len hp, take_eq_next hp hq hi (by simp_all)⟩, rfl, ?_⟩
     · --
      have := lt_len hp; omega
     · --
      repeat (first | exact sub_keep_nil | refine su ?_ | refine sk ?_)
   · -- no
    refine vc_exit ?_
    refine vc_then ?_
    refine vc_region ?_
    refine vy a_assign ?_
    refine vl_nil ?_
    refine vc_ret ?_
    refine fin ?_
    simp only [fitsL, fits, C.asD, and_true]
    all_goals (refine scb ?_; first | exact (decide_eq_false (fun e => by simp_all)).symm | exact (decide_eq_false (ne_at hp hq (fun e => by simp_all))).symm | exact (decide_eq_true (take_eq_end hlen (past_end (by assumption)) hi)).symm)

set_option maxHeartbeats 1000000 in
theorem refSamePairs_any (l m : (List (ByteArray × ByteArray))) (hl : l.length ≤ 1000) : Contract Try.prog 95 [.row (l.map pairD), .row (m.map pairD)] [.d (.sc (.bool (decide (l = m))))] := by
 refine fn_of (N := 26) [.tmp 4] Try.func95 ?_
 simp only [envUp, Nat.zero_add, Nat.reduceAdd]
 refine vc_then ?_
 refine vc_region ?_
 refine vy a_assign ?_
 refine vl_nil ?_
 refine vc_then ?_
 refine vc_then ?_
 refine vc_region ?_
 refine vy a_move ?_
 refine vy (a_len (hT := T.es_28)) ?_
 refine vy a_move ?_
 refine vy (a_len (hT := T.es_28)) ?_
 refine vy (a_bin (hr := by first | exact pr_neq | exact pr_nes | exact pr_neb Try.underlying3)) ?_
 refine vl_nil ?_
 refine vif (fun hc1 => ?_) (fun hc1 => ?_)
 · -- yes
  refine vc_then ?_
  refine vc_region ?_
  refine vy a_assign ?_
  refine vl_nil ?_
  refine vc_ret ?_
  refine fin ?_
  simp only [fitsL, fits, C.asD, and_true]
  all_goals (refine scb ?_; first | exact (decide_eq_false (fun e => by simp_all)).symm | exact (decide_eq_false (ne_at hp hq (fun e => by simp_all))).symm | exact (decide_eq_true (take_eq_end hlen (past_end (by assumption)) hi)).symm)
 · -- no
  have hlen : l.length = m.length := by have := hc1; simp at this; omega
  refine vc_skip ?_
  refine vc_then ?_
  refine vc_then ?_
  refine vc_region ?_
  refine vy a_assign ?_
  refine vl_nil ?_
  refine vc_block ?_
  refine vk [0, 1] (fun (k : Nat) e => upd (e) (some 5) (.c (.d (.sc (.int .i64 (k : Nat)))))) (fun k => k ≤ l.length ∧ l.take k = m.take k) (fun k => l.length - k) 0 ⟨Nat.zero_le _, rfl⟩ ?_ ?_
  · --
   repeat (first | exact sub_keep_nil | refine su ?_ | refine sk ?_)
  · --
   rintro k ⟨hk, hi⟩
   refine vc_then ?_
   refine vc_then ?_
   refine vc_region ?_
   refine vy a_move ?_
   refine vy a_move ?_
   refine vy (a_len (hT := T.es_28)) ?_
   refine vy (a_bin (hr := by first | exact pr_lss | exact pr_lts)) ?_
   refine vl_nil ?_
   refine vif (fun hc2 => ?_) (fun hc2 => ?_)
   · -- yes
    obtain ⟨p, hp⟩ := elem_at hc2
    have hkl := lt_len hp
    obtain ⟨q, hq⟩ := elem_too hp hlen
    refine vc_skip ?_
    refine vc_then ?_
    refine vc_block ?_
    refine vc_then ?_
    refine vc_drawn0 T.mixed ?_
    refine qy a_move ?_
    refine qy a_move ?_
    refine qy (a_ix (hT := T.es_28) (h0 := by first | omega | decide) (hy := by first | exact map_at hp | exact map_at hq)) ?_
    first | refine qy (k_ldr T.ts_55) ?_ | refine qy (k_lda T.ts_55) ?_
    refine qy a_move ?_
    refine qy a_move ?_
    refine qy (a_ix (hT := T.es_28) (h0 := by first | omega | decide) (hy := by first | exact map_at hp | exact map_at hq)) ?_
    first | refine qy (k_ldr T.ts_55) ?_ | refine qy (k_lda T.ts_55) ?_
    refine qy ne_55 ?_
    show _
    refine vif (fun hc3 => ?_) (fun hc3 => ?_)
    · -- yes
     refine vc_then ?_
     refine vc_region ?_
     refine vy a_assign ?_
     refine vl_nil ?_
     refine vc_ret ?_
     refine fin ?_
     simp only [fitsL, fits, C.asD, and_true]
     all_goals (refine scb ?_; first | exact (decide_eq_false (fun e => by simp_all)).symm | exact (decide_eq_false (ne_at hp hq (fun e => by simp_all))).symm | exact (decide_eq_true (take_eq_end hlen (past_end (by assumption)) hi)).symm)
    · -- no
     refine vc_skip ?_
     refine vc_region ?_
     refine vy a_move ?_
     refine vy (a_bin (hr := by first | exact pr_add (by first | exact wrap64 _ (by (first | omega | (simp only [List.length_map, List.length_append, List.length_nil, List.length_cons]; omega))) | rfl) | exact pr_cat (by (first | omega | (simp only [List.length_map, List.length_append, List.length_nil, List.length_cons]; omega))))) ?_
     refine vy a_assign ?_
     refine vl_nil ?_
     refine ⟨_, ?_, (k + 1), ⟨lt_len hp, take_eq_next hp hq hi (by simp_all)⟩, rfl, ?_⟩
     · --
      have := lt_len hp; omega
     · --
      repeat (first | exact sub_keep_nil | refine su ?_ | refine sk ?_)
   · -- no
    refine vc_exit ?_
    refine vc_then ?_
    refine vc_region ?_
    refine vy a_assign ?_
    refine vl_nil ?_
    refine vc_ret ?_
    refine fin ?_
    simp only [fitsL, fits, C.asD, and_true]
    all_goals (refine scb ?_; first | exact (decide_eq_false (fun e => by simp_all)).symm | exact (decide_eq_false (ne_at hp hq (fun e => by simp_all))).symm | exact (decide_eq_true (take_eq_end hlen (past_end (by assumption)) hi)).symm)

set_option maxHeartbeats 1000000 in
theorem froms_any (l : (List (ByteArray × ByteArray))) (hl : l.length ≤ 1000) : Contract Try.prog 128 [.row (l.map pairD)] [.d (.row ((froms l).map strD))] := by
 refine fn_of (N := 22) [.tmp 2] Try.func128 ?_
 simp only [envUp, Nat.zero_add, Nat.reduceAdd]
 refine vc_then ?_
 refine vc_region ?_
 refine vy a_assign ?_
 refine vl_nil ?_
 refine vc_then ?_
 refine vc_region ?_
 refine vy a_move ?_
 refine vy (a_len (hT := T.es_28)) ?_
 refine vy (a_make (hT := T.ef_25) (hb := by first | omega | (simp only [List.length_map, List.length_append, List.length_nil, List.length_cons]; omega)) (hm := by unfold maxLen; (first | omega | (simp only [List.length_map, List.length_append, List.length_nil, List.length_cons]; omega)))) ?_
 refine vy a_assign ?_
 refine vl_nil ?_
 refine vc_then ?_
 refine vc_then ?_
 refine vc_region ?_
 refine vy a_move ?_
 refine vy (a_len (hT := T.es_28)) ?_
 refine vy a_move ?_
 refine vl_nil ?_
 refine vc_block ?_
 refine vk [9, 10] (fun (s : Nat × Nat × List ByteArray) e => upd (upd (e) (some 11) (.c (.d (.sc (.int .i64 ((s.1 : Nat) : Int)))))) (some 3) (.c (.own s.2.1 9 (s.2.2.map strD)))) (fun s => s.1 ≤ l.length ∧ s.2.2 = froms (l.take s.1)) (fun s => l.length - s.1) (0, 8, []) ⟨Nat.zero_le _, rfl⟩ ?_ ?_
 · --
  repeat (first | exact sub_keep_nil | refine su ?_ | refine sk ?_)
 · --
  rintro s ⟨hk, hA⟩
  have hAl : s.2.2.length ≤ 1000 := by rw [hA]; exact froms_len hl
  refine vc_then ?_
  refine vc_region ?_
  refine vy (a_bin (hr := by first | exact pr_add1 (by omega) | exact pr_lss | exact pr_lts)) ?_
  refine vl_nil ?_
  refine vc_then ?_
  refine vif (fun hc1 => ?_) (fun hc1 => ?_)
  · -- yes
   obtain ⟨p, hp⟩ := elem_at hc1
   have hkl := lt_len hp
   refine vc_skip ?_
   refine vc_then ?_
   refine vc_block ?_
   refine vc_then ?_
   refine vc_region ?_
   refine vy (a_ix (hT := T.es_28) (h0 := by first | omega | decide) (hy := by exact map_at hp)) ?_
   first | refine vy (k_ldr T.ts_55) ?_ | refine vy (k_lda T.ts_55) ?_
   refine vs (b_alloc (hz := T.zo_55)) ?_
   refine vs (b_store T.ts_55) ?_
   refine vl_nil ?_
   refine vc_region ?_
   refine vy a_move ?_
   first | refine vy (a_fr (hf := T.fo_55_0)) ?_ | refine vy (a_fa (hf := T.fo_55_0)) ?_
   first | refine vy (k_ldr T.ts_9) ?_ | refine vy (k_lda T.ts_9) ?_
   refine vy (a_lit (xs := [_]) (hT := T.ef_25) (hz := T.zs_9)) ?_
   first | refine vs (b_app (hT := T.ef_25) (hw := by first | exact strs_wide | exact pairs_wide | exact rs_wide | exact fD_wide | (simp [D.cells])) (h63 := by unfold maxLen; (first | omega | (simp only [List.length_map, List.length_append, List.length_nil, List.length_cons]; omega))) (hby := by first | omega | (simp only [List.length_map, List.length_append, List.length_nil, List.length_cons]; omega)) (hzs := by first | exact snoc_map (g := strD) | exact one_map (g := strD) | rfl)) ?_ | refine vy (a_appn (hT := T.ef_25) (hw := by first | exact strs_wide | exact pairs_wide | exact rs_wide | exact fD_wide | (simp [D.cells])) (h63 := by unfold maxLen; (first | omega | (simp only [List.length_map, List.length_append, List.length_nil, List.length_cons]; omega))) (hby := by first | omega | (simp only [List.length_map, List.length_append, List.length_nil, List.length_cons]; omega))) ?_
   refine vy a_assign ?_
   refine vl_nil ?_
   refine vc_region ?_
   refine vy (a_bin (hr := by first | exact pr_add1 (by omega) | exact pr_add (by first | exact wrap64 _ (by (first | omega | (simp only [List.length_map, List.length_append, List.length_nil, List.length_cons]; omega))) | rfl) | exact pr_cat (by (first | omega | (simp only [List.length_map, List.length_append, List.length_nil, List.length_cons]; omega))))) ?_
   refine vy a_move ?_
   refine vl_nil ?_
   refine ⟨_, ?_, (s.1 + 1, 19, s.2.2 ++ [p.1]), ⟨lt_len hp, by rw [hA]; exact (froms_next hp).symm⟩, rfl, ?_⟩
   · --
    have := lt_len hp; (try dsimp only); omega
   · --
    repeat (first | exact sub_keep_nil | refine su ?_ | refine sk ?_)
  · -- no
   refine vc_exit ?_
   refine vc_then ?_
   refine vc_region ?_
   refine vy a_move ?_
   refine vy a_assign ?_
   refine vl_nil ?_
   refine vc_ret ?_
   refine fin ?_
   simp only [fitsL, fits, C.asD, and_true]
   all_goals (refine row_inj ?_; rw [hA, List.take_of_length_le (past_end (by assumption))])

set_option maxHeartbeats 1000000 in
theorem refFroms_any (l : (List (ByteArray × ByteArray))) (hl : l.length ≤ 1000) : Contract Try.prog 74 [.row (l.map pairD)] [.d (.row ((froms l).map strD))] := by
 refine fn_of (N := 21) [.tmp 2] Try.func74 ?_
 simp only [envUp, Nat.zero_add, Nat.reduceAdd]
 refine vc_then ?_
 refine vc_region ?_
 refine vy a_assign ?_
 refine vl_nil ?_
 refine vc_then ?_
 refine vc_region ?_
 refine vy (a_lit (xs := []) (hT := T.ef_25) (hz := T.zs_9) (hw := by intro x hx; cases hx)) ?_
 refine vy a_assign ?_
 refine vl_nil ?_
 refine vc_then ?_
 refine vc_then ?_
 refine vc_region ?_
 refine vy a_assign ?_
 refine vl_nil ?_
 refine vc_block ?_
 refine vk [0] (fun (s : Nat × Nat × List ByteArray) e => upd (upd (e) (some 4) (.c (.d (.sc (.int .i64 ((s.1 : Nat) : Int)))))) (some 3) (.c (.own s.2.1 9 (s.2.2.map strD)))) (fun s => s.1 ≤ l.length ∧ s.2.2 = froms (l.take s.1)) (fun s => l.length - s.1) (0, 5, []) ⟨Nat.zero_le _, rfl⟩ ?_ ?_
 · --
  repeat (first | exact sub_keep_nil | refine su ?_ | refine sk ?_)
 · --
  rintro s ⟨hk, hA⟩
  have hAl : s.2.2.length ≤ 1000 := by rw [hA]; exact froms_len hl
  refine vc_then ?_
  refine vc_then ?_
  refine vc_region ?_
  refine vy a_move ?_
  refine vy a_move ?_
  refine vy (a_len (hT := T.es_28)) ?_
  refine vy (a_bin (hr := by first | exact pr_add1 (by omega) | exact pr_lss | exact pr_lts)) ?_
  refine vl_nil ?_
  refine vif (fun hc1 => ?_) (fun hc1 => ?_)
  · -- yes
   obtain ⟨p, hp⟩ := elem_at hc1
   have hkl := lt_len hp
   refine vc_skip ?_
   refine vc_then ?_
   refine vc_block ?_
   refine vc_region ?_
   refine vy a_move ?_
   refine vy a_move ?_
   refine vy a_move ?_
   refine vy (a_ix (hT := T.es_28) (h0 := by first | omega | decide) (hy := by exact map_at hp)) ?_
   first | refine vy (a_fr (hf := T.fo_55_0)) ?_ | refine vy (a_fa (hf := T.fo_55_0)) ?_
   first | refine vy (k_ldr T.ts_9) ?_ | refine vy (k_lda T.ts_9) ?_
   refine vy (a_lit (xs := [_]) (hT := T.ef_25) (hz := T.zs_9)) ?_
   first | refine vs (b_app (hT := T.ef_25) (hw := by first | exact strs_wide | exact pairs_wide | exact rs_wide | exact fD_wide | (simp [D.cells])) (h63 := by unfold maxLen; (first | omega | (simp only [List.length_map, List.length_append, List.length_nil, List.length_cons]; omega))) (hby := by first | omega | (simp only [List.length_map, List.length_append, List.length_nil, List.length_cons]; omega)) (hzs := by first | exact snoc_map (g := strD) | exact one_map (g := strD) | rfl)) ?_ | refine vy (a_appn (hT := T.ef_25) (hw := by first | exact strs_wide | exact pairs_wide | exact rs_wide | exact fD_wide | (simp [D.cells])) (h63 := by unfold maxLen; (first | omega | (simp only [List.length_map, List.length_append, List.length_nil, List.length_cons]; omega))) (hby := by first | omega | (simp only [List.length_map, List.length_append, List.length_nil, List.length_cons]; omega))) ?_
   refine vy a_assign ?_
   refine vl_nil ?_
   refine vc_region ?_
   refine vy a_move ?_
   refine vy (a_bin (hr := by first | exact pr_add1 (by omega) | exact pr_add (by first | exact wrap64 _ (by (first | omega | (simp only [List.length_map, List.length_append, List.length_nil, List.length_cons]; omega))) | rfl) | exact pr_cat (by (first | omega | (simp only [List.length_map, List.length_append, List.length_nil, List.length_cons]; omega))))) ?_
   refine vy a_assign ?_
   refine vl_nil ?_
   refine ⟨_, ?_, (s.1 + 1, 19, s.2.2 ++ [p.1]), ⟨lt_len hp, by rw [hA]; exact (froms_next hp).symm⟩, rfl, ?_⟩
   · --
    have := lt_len hp; (try dsimp only); omega
   · --
    repeat (first | exact sub_keep_nil | refine su ?_ | refine sk ?_)
  · -- no
   refine vc_exit ?_
   refine vc_then ?_
   refine vc_region ?_
   refine vy a_move ?_
   refine vy a_assign ?_
   refine vl_nil ?_
   refine vc_ret ?_
   refine fin ?_
   simp only [fitsL, fits, C.asD, and_true]
   all_goals (refine row_inj ?_; rw [hA, List.take_of_length_le (past_end (by assumption))])

set_option maxHeartbeats 1000000 in
theorem heavyPairs_any (l : (List (ByteArray × ByteArray))) : Contract Try.prog 65 [.row (l.map pairD)] [.d (.sc (.bool (heavyP l)))] := by
 refine fn_of (N := 29) [.tmp 2] Try.func65 ?_
 simp only [envUp, Nat.zero_add, Nat.reduceAdd]
 refine vc_then ?_
 refine vc_region ?_
 refine vy a_assign ?_
 refine vl_nil ?_
 refine vc_then ?_
 refine vc_then ?_
 refine vc_region ?_
 refine vy a_move ?_
 refine vy (a_len (hT := T.es_28)) ?_
 refine vy (a_bin (hr := by first | exact pr_gtr)) ?_
 refine vl_nil ?_
 refine vif (fun hc1 => ?_) (fun hc1 => ?_)
 · -- yes
  refine vc_then ?_
  refine vc_region ?_
  refine vy a_assign ?_
  refine vl_nil ?_
  refine vc_ret ?_
  refine fin ?_
  simp only [fitsL, fits, C.asD, and_true]
  all_goals (refine scb ?_; first | (have hh := any_hit (f := fun p : ByteArray × ByteArray => decide (200 < p.1.size) || decide (200 < p.2.size)) hp (by (simp only [decide_eq_true_eq, decide_eq_false_iff_not, Bool.not_eq_true', Bool.not_eq_false', Bool.and_eq_true, Bool.or_eq_true, Bool.or_eq_false_iff, Bool.and_eq_false_iff, beq_iff_eq, beq_eq_false_iff_ne, ne_eq, Bool.not_true, Bool.not_false, Bool.false_eq_true, Bool.true_eq_false] at * <;> omega)); unfold heavyP; rw [hh, Bool.or_true]; done) | (have hh := any_end (past_end (by assumption)) hi.1; unfold heavyP; rw [hh, Bool.or_false]; symm; simp only [decide_eq_true_eq, decide_eq_false_iff_not, Bool.not_eq_true', Bool.not_eq_false', Bool.and_eq_true, Bool.or_eq_true, Bool.or_eq_false_iff, Bool.and_eq_false_iff, beq_iff_eq, beq_eq_false_iff_ne, ne_eq, Bool.not_true, Bool.not_false, Bool.false_eq_true, Bool.true_eq_false] at * <;> omega) | (symm; unfold heavyP; simp only [decide_eq_true_eq, decide_eq_false_iff_not, Bool.not_eq_true', Bool.not_eq_false', Bool.and_eq_true, Bool.or_eq_true, Bool.or_eq_false_iff, Bool.and_eq_false_iff, beq_iff_eq, beq_eq_false_iff_ne, ne_eq, Bool.not_true, Bool.not_false, Bool.false_eq_true, Bool.true_eq_false] at * <;> omega))
 · -- no
  have h20 : l.length ≤ 20 := by (simp only [decide_eq_true_eq, decide_eq_false_iff_not, Bool.not_eq_true', Bool.not_eq_false', Bool.and_eq_true, Bool.or_eq_true, Bool.or_eq_false_iff, Bool.and_eq_false_iff, beq_iff_eq, beq_eq_false_iff_ne, ne_eq, Bool.not_true, Bool.not_false, Bool.false_eq_true, Bool.true_eq_false] at * <;> omega)
  refine vc_skip ?_
  refine vc_then ?_
  refine vc_then ?_
  refine vc_region ?_
  refine vy a_assign ?_
  refine vl_nil ?_
  refine vc_block ?_
  refine vk [0] (fun (k : Nat) e => upd (e) (some 3) (.c (.d (.sc (.int .i64 (k : Nat)))))) (fun k => k ≤ l.length ∧ (l.take k).any (fun p => decide (200 < p.1.size) || decide (200 < p.2.size)) = false ∧ l.length ≤ 20) (fun k => l.length - k) 0 ⟨Nat.zero_le _, ⟨rfl, h20⟩⟩ ?_ ?_
  · --
   repeat (first | exact sub_keep_nil | refine su ?_ | refine sk ?_)
  · --
   rintro k ⟨hk, hi⟩
   refine vc_then ?_
   refine vc_then ?_
   refine vc_region ?_
   refine vy a_move ?_
   refine vy a_move ?_
   refine vy (a_len (hT := T.es_28)) ?_
   refine vy (a_bin (hr := by first | exact pr_lss | exact pr_lts)) ?_
   refine vl_nil ?_
   refine vif (fun hc2 => ?_) (fun hc2 => ?_)
   · -- yes
    obtain ⟨p, hp⟩ := elem_at hc2
    have hkl := lt_len hp
    refine vc_skip ?_
    refine vc_then ?_
    refine vc_block ?_
    refine vc_then ?_
    refine vc_region ?_
    refine vy a_move ?_
    refine vy a_move ?_
    refine vy (a_ix (hT := T.es_28) (h0 := by first | omega | decide) (hy := by exact map_at hp)) ?_
    first | refine vy (a_fr (hf := T.fo_55_0)) ?_ | refine vy (a_fa (hf := T.fo_55_0)) ?_
    first | refine vy (k_ldr T.ts_9) ?_ | refine vy (k_lda T.ts_9) ?_
    refine vy (a_lens (hT := T.us_9)) ?_
    refine vy (a_bin (hr := by first | exact pr_gtr)) ?_
    refine vy a_move ?_
    refine vb 20 (fun hg3 => ?_) (fun hg3 => ?_)
    · -- guard yes
     refine vn ?_
     refine vn ?_
     refine vn ?_
     refine vn ?_
     refine vn ?_
     refine vn ?_
     refine vn ?_
     refine vy a_pick ?_
     refine vl_nil ?_
     refine vif (fun hc4 => ?_) (fun hc4 => ?_)
     · -- yes
      refine vc_then ?_
      refine vc_region ?_
      refine vy a_assign ?_
      refine vl_nil ?_
      refine vc_ret ?_
      refine fin ?_
      simp only [fitsL, fits, C.asD, and_true]
      all_goals (refine scb ?_; first | (have hh := any_hit (f := fun p : ByteArray × ByteArray => decide (200 < p.1.size) || decide (200 < p.2.size)) hp (by (simp only [decide_eq_true_eq, decide_eq_false_iff_not, Bool.not_eq_true', Bool.not_eq_false', Bool.and_eq_true, Bool.or_eq_true, Bool.or_eq_false_iff, Bool.and_eq_false_iff, beq_iff_eq, beq_eq_false_iff_ne, ne_eq, Bool.not_true, Bool.not_false, Bool.false_eq_true, Bool.true_eq_false] at * <;> omega)); unfold heavyP; rw [hh, Bool.or_true]; done) | (have hh := any_end (past_end (by assumption)) hi.1; unfold heavyP; rw [hh, Bool.or_false]; symm; simp only [decide_eq_true_eq, decide_eq_false_iff_not, Bool.not_eq_true', Bool.not_eq_false', Bool.and_eq_true, Bool.or_eq_true, Bool.or_eq_false_iff, Bool.and_eq_false_iff, beq_iff_eq, beq_eq_false_iff_ne, ne_eq, Bool.not_true, Bool.not_false, Bool.false_eq_true, Bool.true_eq_false] at * <;> omega) | (symm; unfold heavyP; simp only [decide_eq_true_eq, decide_eq_false_iff_not, Bool.not_eq_true', Bool.not_eq_false', Bool.and_eq_true, Bool.or_eq_true, Bool.or_eq_false_iff, Bool.and_eq_false_iff, beq_iff_eq, beq_eq_false_iff_ne, ne_eq, Bool.not_true, Bool.not_false, Bool.false_eq_true, Bool.true_eq_false] at * <;> omega))
     · -- no
      first | (exfalso; have hdead := hc4; simp at hdead <;> omega) | (exfalso; simp_all; done)
    · -- guard no
     refine vy a_move ?_
     refine vy a_move ?_
     refine vy (a_ix (hT := T.es_28) (h0 := by first | omega | decide) (hy := by exact map_at hp)) ?_
     first | refine vy (a_fr (hf := T.fo_55_1)) ?_ | refine vy (a_fa (hf := T.fo_55_1)) ?_
     first | refine vy (k_ldr T.ts_9) ?_ | refine vy (k_lda T.ts_9) ?_
     refine vy (a_lens (hT := T.us_9)) ?_
     refine vy (a_bin (hr := by first | exact pr_gtr)) ?_
     refine vy a_pick ?_
     refine vl_nil ?_
     refine vif (fun hc5 => ?_) (fun hc5 => ?_)
     · -- yes
      refine vc_then ?_
      refine vc_region ?_
      refine vy a_assign ?_
      refine vl_nil ?_
      refine vc_ret ?_
      refine fin ?_
      simp only [fitsL, fits, C.asD, and_true]
      all_goals (refine scb ?_; first | (have hh := any_hit (f := fun p : ByteArray × ByteArray => decide (200 < p.1.size) || decide (200 < p.2.size)) hp (by (simp only [decide_eq_true_eq, decide_eq_false_iff_not, Bool.not_eq_true', Bool.not_eq_false', Bool.and_eq_true, Bool.or_eq_true, Bool.or_eq_false_iff, Bool.and_eq_false_iff, beq_iff_eq, beq_eq_false_iff_ne, ne_eq, Bool.not_true, Bool.not_false, Bool.false_eq_true, Bool.true_eq_false] at * <;> omega)); unfold heavyP; rw [hh, Bool.or_true]; done) | (have hh := any_end (past_end (by assumption)) hi.1; unfold heavyP; rw [hh, Bool.or_false]; symm; simp only [decide_eq_true_eq, decide_eq_false_iff_not, Bool.not_eq_true', Bool.not_eq_false', Bool.and_eq_true, Bool.or_eq_true, Bool.or_eq_false_iff, Bool.and_eq_false_iff, beq_iff_eq, beq_eq_false_iff_ne, ne_eq, Bool.not_true, Bool.not_false, Bool.false_eq_true, Bool.true_eq_false] at * <;> omega) | (symm; unfold heavyP; simp only [decide_eq_true_eq, decide_eq_false_iff_not, Bool.not_eq_true', Bool.not_eq_false', Bool.and_eq_true, Bool.or_eq_true, Bool.or_eq_false_iff, Bool.and_eq_false_iff, beq_iff_eq, beq_eq_false_iff_ne, ne_eq, Bool.not_true, Bool.not_false, Bool.false_eq_true, Bool.true_eq_false] at * <;> omega))
     · -- no
      refine vc_skip ?_
      refine vc_region ?_
      refine vy a_move ?_
      refine vy (a_bin (hr := by first | exact pr_add (by first | exact wrap64 _ (by (first | omega | (simp only [List.length_map, List.length_append, List.length_nil, List.length_cons]; omega))) | rfl) | exact pr_cat (by (first | omega | (simp only [List.length_map, List.length_append, List.length_nil, List.length_cons]; omega))))) ?_
      refine vy a_assign ?_
      refine vl_nil ?_
      refine ⟨_, ?_, (k + 1), ⟨lt_len hp, any_next hp hi.1 (by (simp only [decide_eq_true_eq, decide_eq_false_iff_not, Bool.not_eq_true', Bool.not_eq_false', Bool.and_eq_true, Bool.or_eq_true, Bool.or_eq_false_iff, Bool.and_eq_false_iff, beq_iff_eq, beq_eq_false_iff_ne, ne_eq, Bool.not_true, Bool.not_false, Bool.false_eq_true, Bool.true_eq_false] at * <;> omega)), hi.2⟩, rfl, ?_⟩
      · --
       have := lt_len hp; omega
      · --
       repeat (first | exact sub_keep_nil | refine su ?_ | refine sk ?_)
   · -- no
    refine vc_exit ?_
    refine vc_then ?_
    refine vc_region ?_
    refine vy a_assign ?_
    refine vl_nil ?_
    refine vc_ret ?_
    refine fin ?_
    simp only [fitsL, fits, C.asD, and_true]
    all_goals (refine scb ?_; first | (have hh := any_hit (f := fun p : ByteArray × ByteArray => decide (200 < p.1.size) || decide (200 < p.2.size)) hp (by (simp only [decide_eq_true_eq, decide_eq_false_iff_not, Bool.not_eq_true', Bool.not_eq_false', Bool.and_eq_true, Bool.or_eq_true, Bool.or_eq_false_iff, Bool.and_eq_false_iff, beq_iff_eq, beq_eq_false_iff_ne, ne_eq, Bool.not_true, Bool.not_false, Bool.false_eq_true, Bool.true_eq_false] at * <;> omega)); unfold heavyP; rw [hh, Bool.or_true]; done) | (have hh := any_end (past_end (by assumption)) hi.1; unfold heavyP; rw [hh, Bool.or_false]; symm; simp only [decide_eq_true_eq, decide_eq_false_iff_not, Bool.not_eq_true', Bool.not_eq_false', Bool.and_eq_true, Bool.or_eq_true, Bool.or_eq_false_iff, Bool.and_eq_false_iff, beq_iff_eq, beq_eq_false_iff_ne, ne_eq, Bool.not_true, Bool.not_false, Bool.false_eq_true, Bool.true_eq_false] at * <;> omega) | (symm; unfold heavyP; simp only [decide_eq_true_eq, decide_eq_false_iff_not, Bool.not_eq_true', Bool.not_eq_false', Bool.and_eq_true, Bool.or_eq_true, Bool.or_eq_false_iff, Bool.and_eq_false_iff, beq_iff_eq, beq_eq_false_iff_ne, ne_eq, Bool.not_true, Bool.not_false, Bool.false_eq_true, Bool.true_eq_false] at * <;> omega))

set_option maxHeartbeats 1000000 in
theorem refTable_any (l m : (List (ByteArray × ByteArray))) (hl : l.length ≤ 1000) (hm : m.length ≤ 1000) : Contract Try.prog 85 [.row (l.map pairD), .row (m.map pairD)] [.d (.sc (.bool (rightT l m)))] := by
 refine fn_of (N := 50) [.tmp 4] Try.func85 ?_
 simp only [envUp, Nat.zero_add, Nat.reduceAdd]
 refine vc_then ?_
 refine vc_region ?_
 refine vy a_assign ?_
 refine vl_nil ?_
 refine vc_then ?_
 refine vc_then ?_
 refine vc_region ?_
 refine vy a_move ?_
 refine vy (a_len (hT := T.es_28)) ?_
 refine vy (a_bin (hr := by first | exact pr_eql | exact pr_eqs | exact pr_eqb Try.underlying3)) ?_
 refine vy a_move ?_
 refine vb 9 (fun hg1 => ?_) (fun hg1 => ?_)
 · -- guard yes
  refine vn ?_
  refine vn ?_
  refine vn ?_
  refine vy a_pick ?_
  refine vl_nil ?_
  refine vif (fun hc2 => ?_) (fun hc2 => ?_)
  · -- yes
   refine vc_then ?_
   refine vc_region ?_
   refine vy a_assign ?_
   refine vl_nil ?_
   refine vc_ret ?_
   refine fin ?_
   simp only [fitsL, fits, C.asD, and_true]
   all_goals (refine scb ?_; first | (refine (rightT_short ?_).symm; (simp only [decide_eq_true_eq, decide_eq_false_iff_not, Bool.not_eq_true', Bool.not_eq_false', Bool.and_eq_true, Bool.or_eq_true, Bool.or_eq_false_iff, Bool.and_eq_false_iff, beq_iff_eq, beq_eq_false_iff_ne, ne_eq, Bool.not_true, Bool.not_false, Bool.false_eq_true, Bool.true_eq_false] at * <;> omega); done) | (refine (rightT_long ?_).symm; (simp only [decide_eq_true_eq, decide_eq_false_iff_not, Bool.not_eq_true', Bool.not_eq_false', Bool.and_eq_true, Bool.or_eq_true, Bool.or_eq_false_iff, Bool.and_eq_false_iff, beq_iff_eq, beq_eq_false_iff_ne, ne_eq, Bool.not_true, Bool.not_false, Bool.false_eq_true, Bool.true_eq_false] at * <;> omega); done) | exact (rightT_yes hi.2.1 hi.2.2 (past_end (by assumption)) hi.1).symm | (refine (rightT_no hp ?_).symm; simp_all; done))
  · -- no
   first | (exfalso; have hdead := hc2; simp at hdead <;> omega) | (exfalso; simp_all; done)
 · -- guard no
  refine vy a_move ?_
  refine vy (a_len (hT := T.es_28)) ?_
  refine vy (a_bin (hr := by first | exact pr_gtr)) ?_
  refine vy a_pick ?_
  refine vl_nil ?_
  refine vif (fun hc3 => ?_) (fun hc3 => ?_)
  · -- yes
   refine vc_then ?_
   refine vc_region ?_
   refine vy a_assign ?_
   refine vl_nil ?_
   refine vc_ret ?_
   refine fin ?_
   simp only [fitsL, fits, C.asD, and_true]
   all_goals (refine scb ?_; first | (refine (rightT_short ?_).symm; (simp only [decide_eq_true_eq, decide_eq_false_iff_not, Bool.not_eq_true', Bool.not_eq_false', Bool.and_eq_true, Bool.or_eq_true, Bool.or_eq_false_iff, Bool.and_eq_false_iff, beq_iff_eq, beq_eq_false_iff_ne, ne_eq, Bool.not_true, Bool.not_false, Bool.false_eq_true, Bool.true_eq_false] at * <;> omega); done) | (refine (rightT_long ?_).symm; (simp only [decide_eq_true_eq, decide_eq_false_iff_not, Bool.not_eq_true', Bool.not_eq_false', Bool.and_eq_true, Bool.or_eq_true, Bool.or_eq_false_iff, Bool.and_eq_false_iff, beq_iff_eq, beq_eq_false_iff_ne, ne_eq, Bool.not_true, Bool.not_false, Bool.false_eq_true, Bool.true_eq_false] at * <;> omega); done) | exact (rightT_yes hi.2.1 hi.2.2 (past_end (by assumption)) hi.1).symm | (refine (rightT_no hp ?_).symm; simp_all; done))
  · -- no
   have hlo : 1 ≤ l.length := by (simp only [decide_eq_true_eq, decide_eq_false_iff_not, Bool.not_eq_true', Bool.not_eq_false', Bool.and_eq_true, Bool.or_eq_true, Bool.or_eq_false_iff, Bool.and_eq_false_iff, beq_iff_eq, beq_eq_false_iff_ne, ne_eq, Bool.not_true, Bool.not_false, Bool.false_eq_true, Bool.true_eq_false] at * <;> omega)
   have hhi : l.length ≤ 6 := by (simp only [decide_eq_true_eq, decide_eq_false_iff_not, Bool.not_eq_true', Bool.not_eq_false', Bool.and_eq_true, Bool.or_eq_true, Bool.or_eq_false_iff, Bool.and_eq_false_iff, beq_iff_eq, beq_eq_false_iff_ne, ne_eq, Bool.not_true, Bool.not_false, Bool.false_eq_true, Bool.true_eq_false] at * <;> omega)
   refine vc_skip ?_
   refine vc_then ?_
   refine vc_then ?_
   refine vc_region ?_
   refine vy a_assign ?_
   refine vl_nil ?_
   refine vc_block ?_
   refine vk [0, 1] (fun (k : Nat) e => upd (e) (some 5) (.c (.d (.sc (.int .i64 (k : Nat)))))) (fun k => k ≤ l.length ∧ okT l m k = true ∧ 1 ≤ l.length ∧ l.length ≤ 6) (fun k => l.length - k) 0 ⟨Nat.zero_le _, ⟨okT_zero l m, hlo, hhi⟩⟩ ?_ ?_
   · --
    repeat (first | exact sub_keep_nil | refine su ?_ | refine sk ?_)
   · --
    rintro k ⟨hk, hi⟩
    refine vc_then ?_
    refine vc_then ?_
    refine vc_region ?_
    refine vy a_move ?_
    refine vy a_move ?_
    refine vy (a_len (hT := T.es_28)) ?_
    refine vy (a_bin (hr := by first | exact pr_lss | exact pr_lts)) ?_
    refine vl_nil ?_
    refine vif (fun hc4 => ?_) (fun hc4 => ?_)
    · -- yes
     obtain ⟨p, hp⟩ := elem_at hc4
     have hkl := lt_len hp
     refine vc_skip ?_
     refine vc_then ?_
     refine vc_block ?_
     refine vc_then ?_
     refine vc_drawn0 T.mixed ?_
     refine qy a_move ?_
     refine qy a_move ?_
     refine qy (a_ix (hT := T.es_28) (h0 := by first | omega | decide) (hy := by exact map_at hp)) ?_
     first | refine qy (a_fr (hf := T.fo_55_0)) ?_ | refine qy (a_fa (hf := T.fo_55_0)) ?_
     first | refine qy (k_ldr T.ts_9) ?_ | refine qy (k_lda T.ts_9) ?_
     refine qy (a_call (hf := T.en_86) (hc := by exact refName_any _)) ?_
     refine qy a_not ?_
     refine qy a_move ?_
     refine qb 27 (fun hg5 => ?_) (fun hg5 => ?_)
     · -- guard yes
      refine qn ?_
      refine qn ?_
      refine qn ?_
      refine qn ?_
      refine qn ?_
      refine qn ?_
      refine qn ?_
      refine qn ?_
      refine qn ?_
      refine qn ?_
      refine qy a_pick ?_
      refine qy a_move ?_
      refine qn ?_
      refine qn ?_
      refine qn ?_
      refine qn ?_
      refine qn ?_
      refine qn ?_
      refine qn ?_
      refine qn ?_
      refine qn ?_
      refine qy a_pick ?_
      show _
      refine vif (fun hc6 => ?_) (fun hc6 => ?_)
      · -- yes
       refine vc_then ?_
       refine vc_region ?_
       refine vy a_assign ?_
       refine vl_nil ?_
       refine vc_ret ?_
       refine fin ?_
       simp only [fitsL, fits, C.asD, and_true]
       all_goals (refine scb ?_; first | (refine (rightT_short ?_).symm; (simp only [decide_eq_true_eq, decide_eq_false_iff_not, Bool.not_eq_true', Bool.not_eq_false', Bool.and_eq_true, Bool.or_eq_true, Bool.or_eq_false_iff, Bool.and_eq_false_iff, beq_iff_eq, beq_eq_false_iff_ne, ne_eq, Bool.not_true, Bool.not_false, Bool.false_eq_true, Bool.true_eq_false] at * <;> omega); done) | (refine (rightT_long ?_).symm; (simp only [decide_eq_true_eq, decide_eq_false_iff_not, Bool.not_eq_true', Bool.not_eq_false', Bool.and_eq_true, Bool.or_eq_true, Bool.or_eq_false_iff, Bool.and_eq_false_iff, beq_iff_eq, beq_eq_false_iff_ne, ne_eq, Bool.not_true, Bool.not_false, Bool.false_eq_true, Bool.true_eq_false] at * <;> omega); done) | exact (rightT_yes hi.2.1 hi.2.2 (past_end (by assumption)) hi.1).symm | (refine (rightT_no hp ?_).symm; simp_all; done))
      · -- no
       first | (exfalso; have hdead := hc6; simp at hdead <;> omega) | (exfalso; simp_all; done)
     · -- guard no
      refine qy a_move ?_
      refine qy a_move ?_
      refine qy (a_subrow (hT := T.es_28) (hsz := by first | exact strs_wide | exact pairs_wide | exact rs_wide | exact fD_wide | (simp [D.cells])) (h1 := by first | omega | (simp only [List.length_map, List.length_append, List.length_nil, List.length_cons]; omega)) (h2 := by first | omega | (simp only [List.length_map, List.length_append, List.length_nil, List.length_cons]; omega)) (hys := by first | exact take_fold | rfl)) ?_
      refine qy (a_call (hf := T.en_74) (hc := by exact refFroms_any _ (by first | assumption | exact hx0.2.1 | exact hx0.2.2 | (rw [List.length_take]; omega)))) ?_
      refine qy a_move ?_
      refine qy a_move ?_
      refine qy (a_ix (hT := T.es_28) (h0 := by first | omega | decide) (hy := by exact map_at hp)) ?_
      first | refine qy (a_fr (hf := T.fo_55_0)) ?_ | refine qy (a_fa (hf := T.fo_55_0)) ?_
      first | refine qy (k_ldr T.ts_9) ?_ | refine qy (k_lda T.ts_9) ?_
      refine qy (a_call (hf := T.en_132) (hc := by exact refHas_any _ _ (by first | (have := froms_len (k := k) hl; omega) | (have : (froms m).length ≤ 1000 := by unfold froms; rw [List.length_map]; exact hm); omega))) ?_
      refine qy a_pick ?_
      refine qy a_move ?_
      refine qb 39 (fun hg7 => ?_) (fun hg7 => ?_)
      · -- guard yes
       refine qn ?_
       refine qn ?_
       refine qn ?_
       refine qn ?_
       refine qn ?_
       refine qn ?_
       refine qn ?_
       refine qn ?_
       refine qn ?_
       refine qy a_pick ?_
       show _
       refine vif (fun hc8 => ?_) (fun hc8 => ?_)
       · -- yes
        refine vc_then ?_
        refine vc_region ?_
        refine vy a_assign ?_
        refine vl_nil ?_
        refine vc_ret ?_
        refine fin ?_
        simp only [fitsL, fits, C.asD, and_true]
        all_goals (refine scb ?_; first | (refine (rightT_short ?_).symm; (simp only [decide_eq_true_eq, decide_eq_false_iff_not, Bool.not_eq_true', Bool.not_eq_false', Bool.and_eq_true, Bool.or_eq_true, Bool.or_eq_false_iff, Bool.and_eq_false_iff, beq_iff_eq, beq_eq_false_iff_ne, ne_eq, Bool.not_true, Bool.not_false, Bool.false_eq_true, Bool.true_eq_false] at * <;> omega); done) | (refine (rightT_long ?_).symm; (simp only [decide_eq_true_eq, decide_eq_false_iff_not, Bool.not_eq_true', Bool.not_eq_false', Bool.and_eq_true, Bool.or_eq_true, Bool.or_eq_false_iff, Bool.and_eq_false_iff, beq_iff_eq, beq_eq_false_iff_ne, ne_eq, Bool.not_true, Bool.not_false, Bool.false_eq_true, Bool.true_eq_false] at * <;> omega); done) | exact (rightT_yes hi.2.1 hi.2.2 (past_end (by assumption)) hi.1).symm | (refine (rightT_no hp ?_).symm; simp_all; done))
       · -- no
        first | (exfalso; have hdead := hc8; simp at hdead <;> omega) | (exfalso; simp_all; done)
      · -- guard no
       refine qy a_move ?_
       refine qy (a_call (hf := T.en_74) (hc := by exact refFroms_any _ (by first | assumption | exact hx0.2.1 | exact hx0.2.2 | (rw [List.length_take]; omega)))) ?_
       refine qy a_move ?_
       refine qy a_move ?_
       refine qy (a_ix (hT := T.es_28) (h0 := by first | omega | decide) (hy := by exact map_at hp)) ?_
       first | refine qy (a_fr (hf := T.fo_55_1)) ?_ | refine qy (a_fa (hf := T.fo_55_1)) ?_
       first | refine qy (k_ldr T.ts_9) ?_ | refine qy (k_lda T.ts_9) ?_
       refine qy (a_call (hf := T.en_132) (hc := by exact refHas_any _ _ (by first | (have := froms_len (k := k) hl; omega) | (have : (froms m).length ≤ 1000 := by unfold froms; rw [List.length_map]; exact hm); omega))) ?_
       refine qy a_not ?_
       refine qy a_pick ?_
       show _
       refine vif (fun hc9 => ?_) (fun hc9 => ?_)
       · -- yes
        refine vc_then ?_
        refine vc_region ?_
        refine vy a_assign ?_
        refine vl_nil ?_
        refine vc_ret ?_
        refine fin ?_
        simp only [fitsL, fits, C.asD, and_true]
        all_goals (refine scb ?_; first | (refine (rightT_short ?_).symm; (simp only [decide_eq_true_eq, decide_eq_false_iff_not, Bool.not_eq_true', Bool.not_eq_false', Bool.and_eq_true, Bool.or_eq_true, Bool.or_eq_false_iff, Bool.and_eq_false_iff, beq_iff_eq, beq_eq_false_iff_ne, ne_eq, Bool.not_true, Bool.not_false, Bool.false_eq_true, Bool.true_eq_false] at * <;> omega); done) | (refine (rightT_long ?_).symm; (simp only [decide_eq_true_eq, decide_eq_false_iff_not, Bool.not_eq_true', Bool.not_eq_false', Bool.and_eq_true, Bool.or_eq_true, Bool.or_eq_false_iff, Bool.and_eq_false_iff, beq_iff_eq, beq_eq_false_iff_ne, ne_eq, Bool.not_true, Bool.not_false, Bool.false_eq_true, Bool.true_eq_false] at * <;> omega); done) | exact (rightT_yes hi.2.1 hi.2.2 (past_end (by assumption)) hi.1).symm | (refine (rightT_no hp ?_).symm; simp_all; done))
       · -- no
        refine vc_skip ?_
        refine vc_region ?_
        refine vy a_move ?_
        refine vy (a_bin (hr := by first | exact pr_add (by first | exact wrap64 _ (by (first | omega | (simp only [List.length_map, List.length_append, List.length_nil, List.length_cons]; omega))) | rfl) | exact pr_cat (by (first | omega | (simp only [List.length_map, List.length_append, List.length_nil, List.length_cons]; omega))))) ?_
        refine vy a_assign ?_
        refine vl_nil ?_
        refine ⟨_, ?_, (k + 1), ⟨lt_len hp, okT_next hp hi.1 (by simp_all) (by simp_all) (by simp_all), hi.2⟩, rfl, ?_⟩
        · --
         have := lt_len hp; omega
        · --
         repeat (first | exact sub_keep_nil | refine su ?_ | refine sk ?_)
    · -- no
     refine vc_exit ?_
     refine vc_then ?_
     refine vc_region ?_
     refine vy a_assign ?_
     refine vl_nil ?_
     refine vc_ret ?_
     refine fin ?_
     simp only [fitsL, fits, C.asD, and_true]
     all_goals (refine scb ?_; first | (refine (rightT_short ?_).symm; (simp only [decide_eq_true_eq, decide_eq_false_iff_not, Bool.not_eq_true', Bool.not_eq_false', Bool.and_eq_true, Bool.or_eq_true, Bool.or_eq_false_iff, Bool.and_eq_false_iff, beq_iff_eq, beq_eq_false_iff_ne, ne_eq, Bool.not_true, Bool.not_false, Bool.false_eq_true, Bool.true_eq_false] at * <;> omega); done) | (refine (rightT_long ?_).symm; (simp only [decide_eq_true_eq, decide_eq_false_iff_not, Bool.not_eq_true', Bool.not_eq_false', Bool.and_eq_true, Bool.or_eq_true, Bool.or_eq_false_iff, Bool.and_eq_false_iff, beq_iff_eq, beq_eq_false_iff_ne, ne_eq, Bool.not_true, Bool.not_false, Bool.false_eq_true, Bool.true_eq_false] at * <;> omega); done) | exact (rightT_yes hi.2.1 hi.2.2 (past_end (by assumption)) hi.1).symm | (refine (rightT_no hp ?_).symm; simp_all; done))

set_option maxHeartbeats 1000000 in
theorem rightTable_any (l m : (List (ByteArray × ByteArray))) (hl : l.length ≤ 1000) (hm : m.length ≤ 1000) : Contract Try.prog 133 [.row (l.map pairD), .row (m.map pairD)] [.d (.sc (.bool (rightT l m)))] := by
 refine fn_of (N := 54) [.tmp 4] Try.func133 ?_
 simp only [envUp, Nat.zero_add, Nat.reduceAdd]
 refine vc_then ?_
 refine vc_region ?_
 refine vy a_assign ?_
 refine vl_nil ?_
 refine vc_then ?_
 refine vc_then ?_
 refine vc_region ?_
 refine vy a_move ?_
 refine vy (a_len (hT := T.es_28)) ?_
 refine vy (a_bin (hr := by first | exact pr_lss | exact pr_lts)) ?_
 refine vy a_move ?_
 refine vb 14 (fun hg1 => ?_) (fun hg1 => ?_)
 · -- guard yes
  refine vn ?_
  refine vn ?_
  refine vn ?_
  refine vy a_pick ?_
  refine vl_nil ?_
  refine vif (fun hc2 => ?_) (fun hc2 => ?_)
  · -- yes
   refine vc_then ?_
   refine vc_region ?_
   refine vy a_assign ?_
   refine vl_nil ?_
   refine vc_ret ?_
   refine fin ?_
   simp only [fitsL, fits, C.asD, and_true]
   all_goals (refine scb ?_; first | (refine (rightT_short ?_).symm; (simp only [decide_eq_true_eq, decide_eq_false_iff_not, Bool.not_eq_true', Bool.not_eq_false', Bool.and_eq_true, Bool.or_eq_true, Bool.or_eq_false_iff, Bool.and_eq_false_iff, beq_iff_eq, beq_eq_false_iff_ne, ne_eq, Bool.not_true, Bool.not_false, Bool.false_eq_true, Bool.true_eq_false] at * <;> omega); done) | (refine (rightT_long ?_).symm; (simp only [decide_eq_true_eq, decide_eq_false_iff_not, Bool.not_eq_true', Bool.not_eq_false', Bool.and_eq_true, Bool.or_eq_true, Bool.or_eq_false_iff, Bool.and_eq_false_iff, beq_iff_eq, beq_eq_false_iff_ne, ne_eq, Bool.not_true, Bool.not_false, Bool.false_eq_true, Bool.true_eq_false] at * <;> omega); done) | exact (rightT_yes hi.2.1 hi.2.2 (past_end (by assumption)) hi.1).symm | (refine (rightT_no hp ?_).symm; have hm1 := froms_mem hq (of_decide_eq_true (by assumption)); simp [hm1]; done) | (refine (rightT_no hp ?_).symm; have := caseT_some (t := m) (s := p.2); simp_all; done))
  · -- no
   first | (exfalso; have hdead := hc2; simp at hdead <;> omega) | (exfalso; simp_all; done)
 · -- guard no
  refine vy a_move ?_
  refine vy (a_len (hT := T.es_28)) ?_
  refine vy (a_bin (hr := by first | exact pr_gtr)) ?_
  refine vy a_pick ?_
  refine vl_nil ?_
  refine vif (fun hc3 => ?_) (fun hc3 => ?_)
  · -- yes
   refine vc_then ?_
   refine vc_region ?_
   refine vy a_assign ?_
   refine vl_nil ?_
   refine vc_ret ?_
   refine fin ?_
   simp only [fitsL, fits, C.asD, and_true]
   all_goals (refine scb ?_; first | (refine (rightT_short ?_).symm; (simp only [decide_eq_true_eq, decide_eq_false_iff_not, Bool.not_eq_true', Bool.not_eq_false', Bool.and_eq_true, Bool.or_eq_true, Bool.or_eq_false_iff, Bool.and_eq_false_iff, beq_iff_eq, beq_eq_false_iff_ne, ne_eq, Bool.not_true, Bool.not_false, Bool.false_eq_true, Bool.true_eq_false] at * <;> omega); done) | (refine (rightT_long ?_).symm; (simp only [decide_eq_true_eq, decide_eq_false_iff_not, Bool.not_eq_true', Bool.not_eq_false', Bool.and_eq_true, Bool.or_eq_true, Bool.or_eq_false_iff, Bool.and_eq_false_iff, beq_iff_eq, beq_eq_false_iff_ne, ne_eq, Bool.not_true, Bool.not_false, Bool.false_eq_true, Bool.true_eq_false] at * <;> omega); done) | exact (rightT_yes hi.2.1 hi.2.2 (past_end (by assumption)) hi.1).symm | (refine (rightT_no hp ?_).symm; have hm1 := froms_mem hq (of_decide_eq_true (by assumption)); simp [hm1]; done) | (refine (rightT_no hp ?_).symm; have := caseT_some (t := m) (s := p.2); simp_all; done))
  · -- no
   have hlo : 1 ≤ l.length := by (simp only [decide_eq_true_eq, decide_eq_false_iff_not, Bool.not_eq_true', Bool.not_eq_false', Bool.and_eq_true, Bool.or_eq_true, Bool.or_eq_false_iff, Bool.and_eq_false_iff, beq_iff_eq, beq_eq_false_iff_ne, ne_eq, Bool.not_true, Bool.not_false, Bool.false_eq_true, Bool.true_eq_false] at * <;> omega)
   have hhi : l.length ≤ 6 := by (simp only [decide_eq_true_eq, decide_eq_false_iff_not, Bool.not_eq_true', Bool.not_eq_false', Bool.and_eq_true, Bool.or_eq_true, Bool.or_eq_false_iff, Bool.and_eq_false_iff, beq_iff_eq, beq_eq_false_iff_ne, ne_eq, Bool.not_true, Bool.not_false, Bool.false_eq_true, Bool.true_eq_false] at * <;> omega)
   refine vc_skip ?_
   refine vc_then ?_
   refine vc_then ?_
   refine vc_region ?_
   refine vy a_move ?_
   refine vy (a_len (hT := T.es_28)) ?_
   refine vy a_move ?_
   refine vl_nil ?_
   refine vc_block ?_
   refine vk [0, 1, 19, 20] (fun (k : Nat) e => upd (e) (some 21) (.c (.d (.sc (.int .i64 (k : Nat)))))) (fun k => k ≤ l.length ∧ okT l m k = true ∧ 1 ≤ l.length ∧ l.length ≤ 6) (fun k => l.length - k) 0 ⟨Nat.zero_le _, ⟨okT_zero l m, hlo, hhi⟩⟩ ?_ ?_
   · --
    repeat (first | exact sub_keep_nil | refine su ?_ | refine sk ?_)
   · --
    rintro k ⟨hk, hi⟩
    refine vc_then ?_
    refine vc_region ?_
    refine vy (a_bin (hr := by first | exact pr_lss | exact pr_lts)) ?_
    refine vl_nil ?_
    refine vc_then ?_
    refine vif (fun hc4 => ?_) (fun hc4 => ?_)
    · -- yes
     obtain ⟨p, hp⟩ := elem_at hc4
     have hkl := lt_len hp
     refine vc_skip ?_
     refine vc_then ?_
     refine vc_block ?_
     refine vc_then ?_
     refine vc_region ?_
     refine vy a_move ?_
     refine vy (a_ix (hT := T.es_28) (h0 := by first | omega | decide) (hy := by first | exact map_at hp | exact map_at hq)) ?_
     first | refine vy (k_ldr T.ts_55) ?_ | refine vy (k_lda T.ts_55) ?_
     refine vs (b_alloc (hz := T.zo_55)) ?_
     refine vy a_assign ?_
     refine vs (b_store T.ts_55) ?_
     refine vl_nil ?_
     refine vc_then ?_
     refine vc_then ?_
     refine vc_region ?_
     first | refine vy (a_fr (hf := T.fo_55_0)) ?_ | refine vy (a_fa (hf := T.fo_55_0)) ?_
     first | refine vy (k_ldr T.ts_9) ?_ | refine vy (k_lda T.ts_9) ?_
     refine vy (a_call (hf := T.en_89) (hc := by exact name_any _)) ?_
     refine vy a_not ?_
     refine vl_nil ?_
     refine vif (fun hc5 => ?_) (fun hc5 => ?_)
     · -- yes
      refine vc_then ?_
      refine vc_region ?_
      refine vy a_assign ?_
      refine vl_nil ?_
      refine vc_ret ?_
      refine fin ?_
      simp only [fitsL, fits, C.asD, and_true]
      all_goals (refine scb ?_; first | (refine (rightT_short ?_).symm; (simp only [decide_eq_true_eq, decide_eq_false_iff_not, Bool.not_eq_true', Bool.not_eq_false', Bool.and_eq_true, Bool.or_eq_true, Bool.or_eq_false_iff, Bool.and_eq_false_iff, beq_iff_eq, beq_eq_false_iff_ne, ne_eq, Bool.not_true, Bool.not_false, Bool.false_eq_true, Bool.true_eq_false] at * <;> omega); done) | (refine (rightT_long ?_).symm; (simp only [decide_eq_true_eq, decide_eq_false_iff_not, Bool.not_eq_true', Bool.not_eq_false', Bool.and_eq_true, Bool.or_eq_true, Bool.or_eq_false_iff, Bool.and_eq_false_iff, beq_iff_eq, beq_eq_false_iff_ne, ne_eq, Bool.not_true, Bool.not_false, Bool.false_eq_true, Bool.true_eq_false] at * <;> omega); done) | exact (rightT_yes hi.2.1 hi.2.2 (past_end (by assumption)) hi.1).symm | (refine (rightT_no hp ?_).symm; have hm1 := froms_mem hq (of_decide_eq_true (by assumption)); simp [hm1]; done) | (refine (rightT_no hp ?_).symm; have := caseT_some (t := m) (s := p.2); simp_all; done))
     · -- no
      refine vc_skip ?_
      refine vc_then ?_
      refine vc_then ?_
      refine vc_region ?_
      refine vy a_move ?_
      refine vy a_move ?_
      refine vy (a_subrow (hT := T.es_28) (hsz := by first | exact strs_wide | exact pairs_wide | exact rs_wide | exact fD_wide | (simp [D.cells])) (h1 := by first | omega | (simp only [List.length_map, List.length_append, List.length_nil, List.length_cons]; omega)) (h2 := by first | omega | (simp only [List.length_map, List.length_append, List.length_nil, List.length_cons]; omega)) (hys := by first | exact take_fold | rfl)) ?_
      refine vy (a_len (hT := T.es_28)) ?_
      refine vy a_move ?_
      refine vl_nil ?_
      refine vc_block ?_
      refine vk [0, 1, 6, 19, 20, 21, 32, 33] (fun (j : Nat) e => upd (e) (some 34) (.c (.d (.sc (.int .i64 (j : Nat)))))) (fun j => j ≤ (l.take k).length ∧ p.1 ∉ froms ((l.take k).take j)) (fun j => (l.take k).length - j) 0 ⟨Nat.zero_le _, by simp [froms]⟩ ?_ ?_
      · --
       repeat (first | exact sub_keep_nil | refine su ?_ | refine sk ?_)
      · --
       rintro j ⟨hjk, hj⟩
       have htl : (l.take k).length ≤ 6 := by rw [List.length_take]; omega
       refine vc_then ?_
       refine vc_region ?_
       refine vy (a_bin (hr := by first | exact pr_lss | exact pr_lts)) ?_
       refine vl_nil ?_
       refine vc_then ?_
       refine vif (fun hc6 => ?_) (fun hc6 => ?_)
       · -- yes
        obtain ⟨q, hq⟩ := elem_at hc6
        have hkl2 := lt_len hq
        refine vc_skip ?_
        refine vc_then ?_
        refine vc_block ?_
        refine vc_then ?_
        refine vc_region ?_
        refine vy (a_ix (hT := T.es_28) (h0 := by first | omega | decide) (hy := by first | exact map_at hp | exact map_at hq)) ?_
        first | refine vy (k_ldr T.ts_55) ?_ | refine vy (k_lda T.ts_55) ?_
        refine vs (b_alloc (hz := T.zo_55)) ?_
        refine vs (b_store T.ts_55) ?_
        refine vl_nil ?_
        refine vc_then ?_
        refine vc_region ?_
        first | refine vy (a_fr (hf := T.fo_55_0)) ?_ | refine vy (a_fa (hf := T.fo_55_0)) ?_
        first | refine vy (k_ldr T.ts_9) ?_ | refine vy (k_lda T.ts_9) ?_
        first | refine vy (a_fr (hf := T.fo_55_0)) ?_ | refine vy (a_fa (hf := T.fo_55_0)) ?_
        first | refine vy (k_ldr T.ts_9) ?_ | refine vy (k_lda T.ts_9) ?_
        refine vy (a_bin (hr := by first | exact pr_eql | exact pr_eqs | exact pr_eqb Try.underlying9)) ?_
        refine vl_nil ?_
        refine vif (fun hc7 => ?_) (fun hc7 => ?_)
        · -- yes
         refine vc_then ?_
         refine vc_region ?_
         refine vy a_assign ?_
         refine vl_nil ?_
         refine vc_ret ?_
         refine fin ?_
         simp only [fitsL, fits, C.asD, and_true]
         all_goals (refine scb ?_; first | (refine (rightT_short ?_).symm; (simp only [decide_eq_true_eq, decide_eq_false_iff_not, Bool.not_eq_true', Bool.not_eq_false', Bool.and_eq_true, Bool.or_eq_true, Bool.or_eq_false_iff, Bool.and_eq_false_iff, beq_iff_eq, beq_eq_false_iff_ne, ne_eq, Bool.not_true, Bool.not_false, Bool.false_eq_true, Bool.true_eq_false] at * <;> omega); done) | (refine (rightT_long ?_).symm; (simp only [decide_eq_true_eq, decide_eq_false_iff_not, Bool.not_eq_true', Bool.not_eq_false', Bool.and_eq_true, Bool.or_eq_true, Bool.or_eq_false_iff, Bool.and_eq_false_iff, beq_iff_eq, beq_eq_false_iff_ne, ne_eq, Bool.not_true, Bool.not_false, Bool.false_eq_true, Bool.true_eq_false] at * <;> omega); done) | exact (rightT_yes hi.2.1 hi.2.2 (past_end (by assumption)) hi.1).symm | (refine (rightT_no hp ?_).symm; have hm1 := froms_mem hq (of_decide_eq_true (by assumption)); simp [hm1]; done) | (refine (rightT_no hp ?_).symm; have := caseT_some (t := m) (s := p.2); simp_all; done))
        · -- no
         refine vc_skip ?_
         refine vc_region ?_
         refine vy (a_bin (hr := by first | exact pr_add (by first | exact wrap64 _ (by (first | omega | (simp only [List.length_map, List.length_append, List.length_nil, List.length_cons]; omega))) | rfl) | exact pr_cat (by (first | omega | (simp only [List.length_map, List.length_append, List.length_nil, List.length_cons]; omega))))) ?_
         refine vy a_move ?_
         refine vl_nil ?_
         refine ⟨_, ?_, (j + 1), ⟨lt_len hq, froms_no hq hj (by assumption)⟩, rfl, ?_⟩
         · --
          have := lt_len hq; omega
         · --
          repeat (first | exact sub_keep_nil | refine su ?_ | refine sk ?_)
       · -- no
        have hjn : ¬ p.1 ∈ froms (l.take k) := by have h0 := past_end hc6; rw [List.take_of_length_le h0] at hj; exact hj
        refine vc_exit ?_
        refine vc_then ?_
        refine vc_region ?_
        refine vy a_move ?_
        first | refine vy (a_fr (hf := T.fo_55_1)) ?_ | refine vy (a_fa (hf := T.fo_55_1)) ?_
        first | refine vy (k_ldr T.ts_9) ?_ | refine vy (k_lda T.ts_9) ?_
        refine vy (a_call (hf := T.en_26) (hc := by exact case_any _ _ hm)) ?_
        refine vy a_move ?_
        refine vy a_ext ?_
        refine vy a_ext ?_
        refine vy a_assign ?_
        refine vy a_assign ?_
        refine vl_nil ?_
        refine vc_then ?_
        refine vc_region ?_
        refine vy a_move ?_
        refine vy a_not ?_
        refine vl_nil ?_
        refine vif (fun hc8 => ?_) (fun hc8 => ?_)
        · -- yes
         refine vc_then ?_
         refine vc_region ?_
         refine vy a_assign ?_
         refine vl_nil ?_
         refine vc_ret ?_
         refine fin ?_
         simp only [fitsL, fits, C.asD, and_true]
         all_goals (refine scb ?_; first | (refine (rightT_short ?_).symm; (simp only [decide_eq_true_eq, decide_eq_false_iff_not, Bool.not_eq_true', Bool.not_eq_false', Bool.and_eq_true, Bool.or_eq_true, Bool.or_eq_false_iff, Bool.and_eq_false_iff, beq_iff_eq, beq_eq_false_iff_ne, ne_eq, Bool.not_true, Bool.not_false, Bool.false_eq_true, Bool.true_eq_false] at * <;> omega); done) | (refine (rightT_long ?_).symm; (simp only [decide_eq_true_eq, decide_eq_false_iff_not, Bool.not_eq_true', Bool.not_eq_false', Bool.and_eq_true, Bool.or_eq_true, Bool.or_eq_false_iff, Bool.and_eq_false_iff, beq_iff_eq, beq_eq_false_iff_ne, ne_eq, Bool.not_true, Bool.not_false, Bool.false_eq_true, Bool.true_eq_false] at * <;> omega); done) | exact (rightT_yes hi.2.1 hi.2.2 (past_end (by assumption)) hi.1).symm | (refine (rightT_no hp ?_).symm; have hm1 := froms_mem hq (of_decide_eq_true (by assumption)); simp [hm1]; done) | (refine (rightT_no hp ?_).symm; have := caseT_some (t := m) (s := p.2); simp_all; done))
        · -- no
         refine vc_skip ?_
         refine vc_region ?_
         refine vy (a_bin (hr := by first | exact pr_add (by first | exact wrap64 _ (by (first | omega | (simp only [List.length_map, List.length_append, List.length_nil, List.length_cons]; omega))) | rfl) | exact pr_cat (by (first | omega | (simp only [List.length_map, List.length_append, List.length_nil, List.length_cons]; omega))))) ?_
         refine vy a_move ?_
         refine vl_nil ?_
         refine ⟨_, ?_, (k + 1), ⟨lt_len hp, okT_next hp hi.1 (by simp_all) hjn (by have := caseT_some (t := m) (s := p.2); simp_all), hi.2⟩, rfl, ?_⟩
         · --
          have := lt_len hp; omega
         · --
          repeat (first | exact sub_keep_nil | refine su ?_ | refine sk ?_)
    · -- no
     refine vc_exit ?_
     refine vc_then ?_
     refine vc_region ?_
     refine vy a_assign ?_
     refine vl_nil ?_
     refine vc_ret ?_
     refine fin ?_
     simp only [fitsL, fits, C.asD, and_true]
     all_goals (refine scb ?_; first | (refine (rightT_short ?_).symm; (simp only [decide_eq_true_eq, decide_eq_false_iff_not, Bool.not_eq_true', Bool.not_eq_false', Bool.and_eq_true, Bool.or_eq_true, Bool.or_eq_false_iff, Bool.and_eq_false_iff, beq_iff_eq, beq_eq_false_iff_ne, ne_eq, Bool.not_true, Bool.not_false, Bool.false_eq_true, Bool.true_eq_false] at * <;> omega); done) | (refine (rightT_long ?_).symm; (simp only [decide_eq_true_eq, decide_eq_false_iff_not, Bool.not_eq_true', Bool.not_eq_false', Bool.and_eq_true, Bool.or_eq_true, Bool.or_eq_false_iff, Bool.and_eq_false_iff, beq_iff_eq, beq_eq_false_iff_ne, ne_eq, Bool.not_true, Bool.not_false, Bool.false_eq_true, Bool.true_eq_false] at * <;> omega); done) | exact (rightT_yes hi.2.1 hi.2.2 (past_end (by assumption)) hi.1).symm | (refine (rightT_no hp ?_).symm; have hm1 := froms_mem hq (of_decide_eq_true (by assumption)); simp [hm1]; done) | (refine (rightT_no hp ?_).symm; have := caseT_some (t := m) (s := p.2); simp_all; done))
end Go.Vm
