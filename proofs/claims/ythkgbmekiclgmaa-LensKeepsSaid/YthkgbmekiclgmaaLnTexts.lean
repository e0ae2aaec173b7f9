/- The walks of texts in lists. Printed by lens_field.py. -/
import Derived.Test.YthkgbmekiclgmaaLnPlace
import Derived.Test.YthkgbmekiclgmaaLnEq
namespace Go.Vm
open Go.RowKit Go.Proofs
set_option linter.unusedVariables false
set_option linter.unusedSimpArgs false
set_option maxRecDepth 10000

theorem map_at {α : Type} {f : α → D} {l : List α} {k : Nat} {x : α} (h : l[k]? = some x) : (l.map f)[((k : Nat) : Int).toNat]? = some (f x) := by
  rw [Int.toNat_natCast, List.getElem?_map, h]; rfl
theorem elem_at {α : Type} {l : List α} {k : Nat} (h : decide ((k : Int) < (l.length : Int)) = true) : ∃ p, l[k]? = some p := by
  have : k < l.length := by have := of_decide_eq_true h; omega
  exact ⟨_, List.getElem?_eq_getElem this⟩
theorem past_end {α : Type} {l : List α} {k : Nat} (h : decide ((k : Int) < (l.length : Int)) = false) : l.length ≤ k := by
  have := of_decide_eq_false h; omega
theorem lt_len {α : Type} {l : List α} {k : Nat} {p : α} (hp : l[k]? = some p) : k < l.length := (List.getElem?_eq_some_iff.1 hp).1
theorem not_mem_next {α : Type} {l : List α} {s p : α} {k : Nat} (hp : l[k]? = some p) (h : s ∉ l.take k) (hn : ¬ s = p) : s ∉ l.take (k + 1) := by
  rw [List.take_add_one, hp]; simp [h, hn]
theorem not_mem_end {α : Type} {l : List α} {s : α} {k : Nat} (hk : l.length ≤ k) (h : s ∉ l.take k) : s ∉ l := by rwa [List.take_of_length_le hk] at h
theorem take_eq_next {α : Type} {l m : List α} {p q : α} {k : Nat} (hp : l[k]? = some p) (hq : m[k]? = some q) (h : l.take k = m.take k) (hn : p = q) : l.take (k + 1) = m.take (k + 1) := by
  rw [List.take_add_one, List.take_add_one, hp, hq, h, hn]
theorem take_eq_end {α : Type} {l m : List α} {k : Nat} (hl : l.length = m.length) (hk : l.length ≤ k) (h : l.take k = m.take k) : l = m := by
  rwa [List.take_of_length_le hk, List.take_of_length_le (by omega)] at h
theorem ne_at {α : Type} {l m : List α} {p q : α} {k : Nat} (hp : l[k]? = some p) (hq : m[k]? = some q) (hn : ¬ p = q) : ¬ l = m := by
  rintro rfl; rw [hp] at hq; injection hq with hq; exact hn hq
theorem elem_too {α β : Type} {l : List α} {m : List β} {k : Nat} {p : α} (hp : l[k]? = some p) (hl : l.length = m.length) : ∃ q, m[k]? = some q := ⟨_, List.getElem?_eq_getElem (by have := lt_len hp; omega)⟩
def idxB (s : ByteArray) (l : List ByteArray) : Int := if s ∈ l then ((l.findIdx (fun x => decide (x = s)) : Nat) : Int) else -1
theorem idx_hit {l : List ByteArray} {s p : ByteArray} {k : Nat} (hp : l[k]? = some p) (h : s ∉ l.take k) (hn : s = p) : idxB s l = (k : Int) := by
  subst hn
  obtain ⟨hlt, hpe⟩ := List.getElem?_eq_some_iff.1 hp
  have e : l.findIdx (fun x => decide (x = s)) = k := by
    rw [List.findIdx_eq hlt]
    refine ⟨by simp [hpe], fun j hj => ?_⟩
    simp only [decide_eq_false_iff_not]
    intro e
    exact h (List.mem_take_iff_getElem.2 ⟨j, by omega, e⟩)
  unfold idxB
  rw [if_pos (List.mem_of_getElem? hp), e]
theorem idx_miss {l : List ByteArray} {s : ByteArray} {k : Nat} (hk : l.length ≤ k) (h : s ∉ l.take k) : idxB s l = -1 := if_neg (not_mem_end hk h)
theorem idx_iff {l : List ByteArray} {s : ByteArray} : decide (0 ≤ idxB s l) = decide (s ∈ l) := by
  unfold idxB
  by_cases h : s ∈ l
  · rw [if_pos h]; simp [h]
  · rw [if_neg h]; simp [h]
theorem scb' {a b : Bool} (h : a = b) : D.sc (.bool a) = D.sc (.bool b) := by rw [h]

set_option maxHeartbeats 1000000 in
theorem refHas_any (l : List ByteArray) (s : ByteArray) (hl : l.length ≤ 1000000) : Contract Try.prog 132 [.row (l.map strD), .sc (.string s)] [.d (.sc (.bool (decide (s ∈ l))))] := by
 refine fn_of (N := 18) [.tmp 4] Try.func132 ?_
 simp only [envUp, Nat.zero_add, Nat.reduceAdd]
 refine vc_then ?_
 refine vc_region ?_
 refine vy a_assign ?_
 refine vl_nil ?_
 refine vc_then ?_
 refine vc_then ?_
 refine vc_region ?_
 refine vy a_assign ?_
 refine vl_nil ?_
 refine vc_block ?_
 refine vk [0, 1] (fun (k : Nat) e => upd (e) (some 5) (.c (.d (.sc (.int .i64 (k : Nat)))))) (fun k => k ≤ l.length ∧ s ∉ l.take k) (fun k => l.length - k) 0 ⟨Nat.zero_le _, by simp⟩ ?_ ?_
 · --
  repeat (first | exact sub_keep_nil | refine su ?_ | refine sk ?_)
 · --
  rintro k ⟨hk, hi⟩
  refine vc_then ?_
  refine vc_then ?_
  refine vc_region ?_
  refine vy a_move ?_
  refine vy a_move ?_
  refine vy (a_len (hT := T.es_25)) ?_
  refine vy (a_bin (hr := by first | exact pr_lss | exact pr_lts)) ?_
  refine vl_nil ?_
  refine vif (fun hc1 => ?_) (fun hc1 => ?_)
  · -- yes
   obtain ⟨p, hp⟩ := elem_at hc1
   refine vc_skip ?_
   refine vc_then ?_
   refine vc_block ?_
   refine vc_then ?_
   refine vc_region ?_
   refine vy a_move ?_
   refine vy a_move ?_
   refine vy (a_ix (hT := T.es_25) (h0 := by first | omega | decide) (hy := by exact map_at hp)) ?_
   first | refine vy (k_ldr T.ts_9) ?_ | refine vy (k_lda T.ts_9) ?_
   refine vy a_move ?_
   refine vy (a_bin (hr := by first | exact pr_eql | exact pr_eqs | exact pr_eqb Try.underlying9)) ?_
   refine vl_nil ?_
   refine vif (fun hc2 => ?_) (fun hc2 => ?_)
   · -- yes
    refine vc_then ?_
    refine vc_region ?_
    refine vy a_assign ?_
    refine vl_nil ?_
    refine vc_ret ?_
    refine fin ?_
    simp only [fitsL, fits, C.asD, and_true]
    all_goals (refine scb ?_; first | (refine (decide_eq_true (?_ : s ∈ l)).symm; have h := of_decide_eq_true ‹decide (p = s) = true›; rw [← h]; exact List.mem_of_getElem? hp) | (refine (decide_eq_true (?_ : s ∈ l)).symm; have h := of_decide_eq_true ‹decide (s = p) = true›; rw [h]; exact List.mem_of_getElem? hp) | exact (decide_eq_false (not_mem_end (past_end (by assumption)) hi)).symm)
   · -- no
    refine vc_skip ?_
    refine vc_region ?_
    refine vy a_move ?_
    refine vy (a_bin (hr := by first | exact pr_add (by first | exact wrap64 _ (by (first | omega | (simp only [List.length_map, List.length_append, List.length_nil, List.length_cons]; omega))) | rfl) | exact pr_cat (by (first | omega | (simp only [List.length_map, List.length_append, List.length_nil, List.length_cons]; omega))))) ?_
    refine vy a_assign ?_
    refine vl_nil ?_
    refine ⟨_, ?_, (k + 1), ⟨lt_len hp, not_mem_next hp hi (fun e => by simp_all)⟩, rfl, ?_⟩
    · --
     have := lt_len hp; omega
    · --
     repeat (first | exact sub_keep_nil | refine su ?_ | refine sk ?_)
  · -- no
   refine vc_exit ?_
   refine vc_then ?_
   refine vc_region ?_
   refine vy a_assign ?_
   refine vl_nil ?_
   refine vc_ret ?_
   refine fin ?_
   simp only [fitsL, fits, C.asD, and_true]
   all_goals (refine scb ?_; first | (refine (decide_eq_true (?_ : s ∈ l)).symm; have h := of_decide_eq_true ‹decide (p = s) = true›; rw [← h]; exact List.mem_of_getElem? hp) | (refine (decide_eq_true (?_ : s ∈ l)).symm; have h := of_decide_eq_true ‹decide (s = p) = true›; rw [h]; exact List.mem_of_getElem? hp) | exact (decide_eq_false (not_mem_end (past_end (by assumption)) hi)).symm)

set_option maxHeartbeats 1000000 in
theorem index_any (l : List ByteArray) (s : ByteArray) (hl : l.length ≤ 1000000) : Contract Try.prog 146 [.row (l.map strD), .sc (.string s)] [.d (.sc (.int .i64 (idxB s l)))] := by
 refine fn_of (N := 19) [.tmp 4] Try.func146 ?_
 simp only [envUp, Nat.zero_add, Nat.reduceAdd]
 refine vc_then ?_
 refine vc_region ?_
 refine vy a_assign ?_
 refine vl_nil ?_
 refine vc_then ?_
 refine vc_then ?_
 refine vc_region ?_
 refine vy a_move ?_
 refine vy (a_len (hT := T.es_25)) ?_
 refine vy a_move ?_
 refine vl_nil ?_
 refine vc_block ?_
 refine vk [0, 1, 7] (fun (k : Nat) e => upd (e) (some 8) (.c (.d (.sc (.int .i64 (k : Nat)))))) (fun k => k ≤ l.length ∧ s ∉ l.take k) (fun k => l.length - k) 0 ⟨Nat.zero_le _, by simp⟩ ?_ ?_
 · --
  repeat (first | exact sub_keep_nil | refine su ?_ | refine sk ?_)
 · --
  rintro k ⟨hk, hi⟩
  refine vc_then ?_
  refine vc_region ?_
  refine vy (a_bin (hr := by first | exact pr_lss | exact pr_lts)) ?_
  refine vl_nil ?_
  refine vc_then ?_
  refine vif (fun hc1 => ?_) (fun hc1 => ?_)
  · -- yes
   obtain ⟨p, hp⟩ := elem_at hc1
   refine vc_skip ?_
   refine vc_then ?_
   refine vc_block ?_
   refine vc_then ?_
   refine vc_region ?_
   refine vy a_move ?_
   refine vy a_assign ?_
   refine vl_nil ?_
   refine vc_then ?_
   refine vc_region ?_
   refine vy a_move ?_
   refine vy a_move ?_
   refine vy a_move ?_
   refine vy (a_ix (hT := T.es_25) (h0 := by first | omega | decide) (hy := by exact map_at hp)) ?_
   first | refine vy (k_ldr T.ts_9) ?_ | refine vy (k_lda T.ts_9) ?_
   refine vy (a_bin (hr := by first | exact pr_eql | exact pr_eqs | exact pr_eqb Try.underlying9)) ?_
   refine vl_nil ?_
   refine vif (fun hc2 => ?_) (fun hc2 => ?_)
   · -- yes
    refine vc_then ?_
    refine vc_region ?_
    refine vy a_move ?_
    refine vy a_assign ?_
    refine vl_nil ?_
    refine vc_ret ?_
    refine fin ?_
    simp only [fitsL, fits, C.asD, and_true]
    all_goals (first | (rw [idx_hit hp hi (of_decide_eq_true ‹decide (s = p) = true›)]) | (rw [idx_miss (past_end (by assumption)) hi]))
   · -- no
    refine vc_skip ?_
    refine vc_region ?_
    refine vy (a_bin (hr := by first | exact pr_add (by first | exact wrap64 _ (by (first | omega | (simp only [List.length_map, List.length_append, List.length_nil, List.length_cons]; omega))) | rfl) | exact pr_cat (by (first | omega | (simp only [List.length_map, List.length_append, List.length_nil, List.length_cons]; omega))))) ?_
    refine vy a_move ?_
    refine vl_nil ?_
    refine ⟨_, ?_, (k + 1), ⟨lt_len hp, not_mem_next hp hi (fun e => by simp_all)⟩, rfl, ?_⟩
    · --
     have := lt_len hp; omega
    · --
     repeat (first | exact sub_keep_nil | refine su ?_ | refine sk ?_)
  · -- no
   refine vc_exit ?_
   refine vc_then ?_
   refine vc_region ?_
   refine vy a_assign ?_
   refine vl_nil ?_
   refine vc_ret ?_
   refine fin ?_
   simp only [fitsL, fits, C.asD, and_true]
   all_goals (first | (rw [idx_hit hp hi (of_decide_eq_true ‹decide (s = p) = true›)]) | (rw [idx_miss (past_end (by assumption)) hi]))

set_option maxHeartbeats 1000000 in
theorem contains_any (l : List ByteArray) (s : ByteArray) (hl : l.length ≤ 1000000) : Contract Try.prog 131 [.row (l.map strD), .sc (.string s)] [.d (.sc (.bool (decide (s ∈ l))))] := by
 refine fn_of (N := 9) [.tmp 4] Try.func131 ?_
 simp only [envUp, Nat.zero_add, Nat.reduceAdd]
 refine vc_then ?_
 refine vc_region ?_
 refine vy a_assign ?_
 refine vl_nil ?_
 refine vc_then ?_
 refine vc_region ?_
 refine vy a_move ?_
 refine vy a_move ?_
 refine vy (a_call (hf := T.en_146) (hc := by exact index_any _ _ (by assumption))) ?_
 refine vy (a_bin (hr := by first | exact pr_geq)) ?_
 refine vy a_assign ?_
 refine vl_nil ?_
 refine vc_ret ?_
 refine fin ?_
 simp only [fitsL, fits, C.asD, and_true]
 all_goals (refine scb ?_; exact idx_iff)

set_option maxHeartbeats 1000000 in
theorem equal_any (l m : List ByteArray) (hl : l.length ≤ 1000000) : Contract Try.prog 134 [.row (l.map strD), .row (m.map strD)] [.d (.sc (.bool (decide (l = m))))] := by
 refine fn_of (N := 26) [.tmp 4] Try.func134 ?_
 simp only [envUp, Nat.zero_add, Nat.reduceAdd]
 refine vc_then ?_
 refine vc_region ?_
 refine vy a_assign ?_
 refine vl_nil ?_
 refine vc_then ?_
 refine vc_then ?_
 refine vc_region ?_
 refine vy a_move ?_
 refine vy (a_len (hT := T.es_25)) ?_
 refine vy a_move ?_
 refine vy (a_len (hT := T.es_25)) ?_
 refine vy (a_bin (hr := by first | exact pr_neq | exact pr_nes | exact pr_neb Try.underlying3)) ?_
 refine vl_nil ?_
 refine vif (fun hc1 => ?_) (fun hc1 => ?_)
 · -- yes
  refine vc_then ?_
  refine vc_region ?_
  refine vy a_assign ?_
  refine vl_nil ?_
  refine vc_ret ?_
  refine fin ?_
  simp only [fitsL, fits, C.asD, and_true]
  all_goals (refine scb ?_; first | exact (decide_eq_false (fun e => by simp_all)).symm | exact (decide_eq_false (ne_at hp hq (fun e => by simp_all))).symm | exact (decide_eq_true (take_eq_end hlen (past_end (by assumption)) hi)).symm)
 · -- no
  have hlen : l.length = m.length := by have := hc1; simp at this; omega
  refine vc_skip ?_
  refine vc_then ?_
  refine vc_then ?_
  refine vc_region ?_
  refine vy a_move ?_
  refine vy (a_len (hT := T.es_25)) ?_
  refine vy a_move ?_
  refine vl_nil ?_
  refine vc_block ?_
  refine vk [0, 1, 12] (fun (k : Nat) e => upd (e) (some 13) (.c (.d (.sc (.int .i64 (k : Nat)))))) (fun k => k ≤ l.length ∧ l.take k = m.take k) (fun k => l.length - k) 0 ⟨Nat.zero_le _, rfl⟩ ?_ ?_
  · --
   repeat (first | exact sub_keep_nil | refine su ?_ | refine sk ?_)
  · --
   rintro k ⟨hk, hi⟩
   refine vc_then ?_
   refine vc_region ?_
   refine vy (a_bin (hr := by first | exact pr_lss | exact pr_lts)) ?_
   refine vl_nil ?_
   refine vc_then ?_
   refine vif (fun hc2 => ?_) (fun hc2 => ?_)
   · -- yes
    obtain ⟨p, hp⟩ := elem_at hc2
    obtain ⟨q, hq⟩ := elem_too hp hlen
    refine vc_skip ?_
    refine vc_then ?_
    refine vc_block ?_
    refine vc_then ?_
    refine vc_region ?_
    refine vy a_move ?_
    refine vy a_assign ?_
    refine vl_nil ?_
    refine vc_then ?_
    refine vc_drawn0 T.mixed ?_
    refine qy a_move ?_
    refine qy a_move ?_
    refine qy (a_ix (hT := T.es_25) (h0 := by first | omega | decide) (hy := by first | exact map_at hp | exact map_at hq)) ?_
    first | refine qy (k_ldr T.ts_9) ?_ | refine qy (k_lda T.ts_9) ?_
    refine qy a_move ?_
    refine qy a_move ?_
    refine qy (a_ix (hT := T.es_25) (h0 := by first | omega | decide) (hy := by first | exact map_at hp | exact map_at hq)) ?_
    first | refine qy (k_ldr T.ts_9) ?_ | refine qy (k_lda T.ts_9) ?_
    refine qy (a_bin (hr := by first | exact pr_neq | exact pr_nes | exact pr_neb Try.underlying9)) ?_
    show _
    refine vif (fun hc3 => ?_) (fun hc3 => ?_)
    · -- yes
     refine vc_then ?_
     refine vc_region ?_
     refine vy a_assign ?_
     refine vl_nil ?_
     refine vc_ret ?_
     refine fin ?_
     simp only [fitsL, fits, C.asD, and_true]
     all_goals (refine scb ?_; first | exact (decide_eq_false (fun e => by simp_all)).symm | exact (decide_eq_false (ne_at hp hq (fun e => by simp_all))).symm | exact (decide_eq_true (take_eq_end hlen (past_end (by assumption)) hi)).symm)
    · -- no
     refine vc_skip ?_
     refine vc_region ?_
     refine vy (a_bin (hr := by first | exact pr_add (by first | exact wrap64 _ (by (first | omega | (simp only [List.length_map, List.length_append, List.length_nil, List.length_cons]; omega))) | rfl) | exact pr_cat (by (first | omega | (simp only [List.length_map, List.length_append, List.length_nil, List.length_cons]; omega))))) ?_
     refine vy a_move ?_
     refine vl_nil ?_
     refine ⟨_, ?_, (k + 1), ⟨lt_len hp, take_eq_next hp hq hi (by simp_all)⟩, rfl, ?_⟩
     · --
      have := lt_len hp; omega
     · --
      repeat (first | exact sub_keep_nil | refine su ?_ | refine sk ?_)
   · -- no
    refine vc_exit ?_
    refine vc_then ?_
    refine vc_region ?_
    refine vy a_assign ?_
    refine vl_nil ?_
    refine vc_ret ?_
    refine fin ?_
    simp only [fitsL, fits, C.asD, and_true]
    all_goals (refine scb ?_; first | exact (decide_eq_false (fun e => by simp_all)).symm | exact (decide_eq_false (ne_at hp hq (fun e => by simp_all))).symm | exact (decide_eq_true (take_eq_end hlen (past_end (by assumption)) hi)).symm)

set_option maxHeartbeats 1000000 in
theorem refSames_any (l m : List ByteArray) (hl : l.length ≤ 1000000) : Contract Try.prog 73 [.row (l.map strD), .row (m.map strD)] [.d (.sc (.bool (decide (l = m))))] := by
 refine fn_of (N := 26) [.tmp 4] Try.func73 ?_
 simp only [envUp, Nat.zero_add, Nat.reduceAdd]
 refine vc_then ?_
 refine vc_region ?_
 refine vy a_assign ?_
 refine vl_nil ?_
 refine vc_then ?_
 refine vc_then ?_
 refine vc_region ?_
 refine vy a_move ?_
 refine vy (a_len (hT := T.es_25)) ?_
 refine vy a_move ?_
 refine vy (a_len (hT := T.es_25)) ?_
 refine vy (a_bin (hr := by first | exact pr_neq | exact pr_nes | exact pr_neb Try.underlying3)) ?_
 refine vl_nil ?_
 refine vif (fun hc1 => ?_) (fun hc1 => ?_)
 · -- yes
  refine vc_then ?_
  refine vc_region ?_
  refine vy a_assign ?_
  refine vl_nil ?_
  refine vc_ret ?_
  refine fin ?_
  simp only [fitsL, fits, C.asD, and_true]
  all_goals (refine scb ?_; first | exact (decide_eq_false (fun e => by simp_all)).symm | exact (decide_eq_false (ne_at hp hq (fun e => by simp_all))).symm | exact (decide_eq_true (take_eq_end hlen (past_end (by assumption)) hi)).symm)
 · -- no
  have hlen : l.length = m.length := by have := hc1; simp at this; omega
  refine vc_skip ?_
  refine vc_then ?_
  refine vc_then ?_
  refine vc_region ?_
  refine vy a_assign ?_
  refine vl_nil ?_
  refine vc_block ?_
  refine vk [0, 1] (fun (k : Nat) e => upd (e) (some 5) (.c (.d (.sc (.int .i64 (k : Nat)))))) (fun k => k ≤ l.length ∧ l.take k = m.take k) (fun k => l.length - k) 0 ⟨Nat.zero_le _, rfl⟩ ?_ ?_
  · --
   repeat (first | exact sub_keep_nil | refine su ?_ | refine sk ?_)
  · --
   rintro k ⟨hk, hi⟩
   refine vc_then ?_
   refine vc_then ?_
   refine vc_region ?_
   refine vy a_move ?_
   refine vy a_move ?_
   refine vy (a_len (hT := T.es_25)) ?_
   refine vy (a_bin (hr := by first | exact pr_lss | exact pr_lts)) ?_
   refine vl_nil ?_
   refine vif (fun hc2 => ?_) (fun hc2 => ?_)
   · -- yes
    obtain ⟨p, hp⟩ := elem_at hc2
    obtain ⟨q, hq⟩ := elem_too hp hlen
    refine vc_skip ?_
    refine vc_then ?_
    refine vc_block ?_
    refine vc_then ?_
    refine vc_drawn0 T.mixed ?_
    refine qy a_move ?_
    refine qy a_move ?_
    refine qy (a_ix (hT := T.es_25) (h0 := by first | omega | decide) (hy := by first | exact map_at hp | exact map_at hq)) ?_
    first | refine qy (k_ldr T.ts_9) ?_ | refine qy (k_lda T.ts_9) ?_
    refine qy a_move ?_
    refine qy a_move ?_
    refine qy (a_ix (hT := T.es_25) (h0 := by first | omega | decide) (hy := by first | exact map_at hp | exact map_at hq)) ?_
    first | refine qy (k_ldr T.ts_9) ?_ | refine qy (k_lda T.ts_9) ?_
    refine qy (a_bin (hr := by first | exact pr_neq | exact pr_nes | exact pr_neb Try.underlying9)) ?_
    show _
    refine vif (fun hc3 => ?_) (fun hc3 => ?_)
    · -- yes
     refine vc_then ?_
     refine vc_region ?_
     refine vy a_assign ?_
     refine vl_nil ?_
     refine vc_ret ?_
     refine fin ?_
     simp only [fitsL, fits, C.asD, and_true]
     all_goals (refine scb ?_; first | exact (decide_eq_false (fun e => by simp_all)).symm | exact (decide_eq_false (ne_at hp hq (fun e => by simp_all))).symm | exact (decide_eq_true (take_eq_end hlen (past_end (by assumption)) hi)).symm)
    · -- no
     refine vc_skip ?_
     refine vc_region ?_
     refine vy a_move ?_
     refine vy (a_bin (hr := by first | exact pr_add (by first | exact wrap64 _ (by (first | omega | (simp only [List.length_map, List.length_append, List.length_nil, List.length_cons]; omega))) | rfl) | exact pr_cat (by (first | omega | (simp only [List.length_map, List.length_append, List.length_nil, List.length_cons]; omega))))) ?_
     refine vy a_assign ?_
     refine vl_nil ?_
     refine ⟨_, ?_, (k + 1), ⟨lt_len hp, take_eq_next hp hq hi (by simp_all)⟩, rfl, ?_⟩
     · --
      have := lt_len hp; omega
     · --
      repeat (first | exact sub_keep_nil | refine su ?_ | refine sk ?_)
   · -- no
    refine vc_exit ?_
    refine vc_then ?_
    refine vc_region ?_
    refine vy a_assign ?_
    refine vl_nil ?_
    refine vc_ret ?_
    refine fin ?_
    simp only [fitsL, fits, C.asD, and_true]
    all_goals (refine scb ?_; first | exact (decide_eq_false (fun e => by simp_all)).symm | exact (decide_eq_false (ne_at hp hq (fun e => by simp_all))).symm | exact (decide_eq_true (take_eq_end hlen (past_end (by assumption)) hi)).symm)
end Go.Vm
