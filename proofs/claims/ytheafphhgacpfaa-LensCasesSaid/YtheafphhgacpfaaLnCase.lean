/- The walks of lens.Case and of the reference's. Printed by lens_case.py. -/
import Derived.Test.YtheafphhgacpfaaVmA
import Derived.Test.YtheafphhgacpfaaTypes
namespace Go.Vm
open Go.RowKit Go.Proofs
set_option linter.unusedVariables false
set_option linter.unusedSimpArgs false
set_option maxRecDepth 10000

def pairD (p : ByteArray × ByteArray) : D := .agg [.sc (.string p.1), .sc (.string p.2)]
def caseT (t : List (ByteArray × ByteArray)) (s : ByteArray) : ByteArray × Bool := match t.find? fun p => decide (p.1 = s) with
  | some p => (p.2, true)
  | none => (⟨#[]⟩, false)
theorem map_at {α : Type} {f : α → D} {l : List α} {k : Nat} {x : α} (h : l[k]? = some x) : (l.map f)[((k : Nat) : Int).toNat]? = some (f x) := by
  rw [Int.toNat_natCast, List.getElem?_map, h]; rfl
theorem elem_at {α : Type} {l : List α} {k : Nat} (h : decide ((k : Int) < (l.length : Int)) = true) : ∃ p, l[k]? = some p := by
  have : k < l.length := by have := of_decide_eq_true h; omega
  exact ⟨_, List.getElem?_eq_getElem this⟩
theorem past_end {α : Type} {l : List α} {k : Nat} (h : decide ((k : Int) < (l.length : Int)) = false) : l.length ≤ k := by
  have := of_decide_eq_false h; omega
theorem find_none {l : List (ByteArray × ByteArray)} {s : ByteArray} {k : Nat} {p : ByteArray × ByteArray} (hp : l[k]? = some p) (h : (l.take k).find? (fun p => decide (p.1 = s)) = none) (hn : decide (p.1 = s) = false) : (l.take (k + 1)).find? (fun p => decide (p.1 = s)) = none := by
  rw [List.take_add_one, hp, List.find?_append, h]; simp [hn]
theorem case_hit {l : List (ByteArray × ByteArray)} {s : ByteArray} {k : Nat} {p : ByteArray × ByteArray} (hp : l[k]? = some p) (h : (l.take k).find? (fun p => decide (p.1 = s)) = none) (hn : decide (p.1 = s) = true) : caseT l s = (p.2, true) := by
  obtain ⟨hlt, hpe⟩ := List.getElem?_eq_some_iff.1 hp
  have e : l = l.take k ++ p :: l.drop (k + 1) := by rw [← hpe, ← List.drop_eq_getElem_cons hlt, List.take_append_drop]
  unfold caseT
  rw [e, List.find?_append, h]; simp [hn]
theorem case_miss {l : List (ByteArray × ByteArray)} {s : ByteArray} {k : Nat} (hk : l.length ≤ k) (h : (l.take k).find? (fun p => decide (p.1 = s)) = none) : caseT l s = (⟨#[]⟩, false) := by
  rw [List.take_of_length_le hk] at h
  unfold caseT; rw [h]
theorem lt_len {α : Type} {l : List α} {k : Nat} {p : α} (hp : l[k]? = some p) : k < l.length := (List.getElem?_eq_some_iff.1 hp).1

set_option maxHeartbeats 1000000 in
theorem case_any (l : List (ByteArray × ByteArray)) (s : ByteArray) (hl : l.length ≤ 1000) : Contract Try.prog 23 [.row (l.map pairD), .sc (.string s)] [.d (.sc (.string (caseT l s).1)), .d (.sc (.bool (caseT l s).2))] := by
  refine fn_of (N := 21) [.tmp 4, .tmp 5] Try.func23 ?_
  simp only [envUp, Nat.zero_add, Nat.reduceAdd]
  refine vc_then ?_
  refine vc_region ?_
  refine vy a_assign ?_
  refine vy a_assign ?_
  refine vl_nil ?_
  refine vc_then ?_
  refine vc_then ?_
  refine vc_region ?_
  refine vy a_move ?_
  refine vy (a_len (hT := T.es_28)) ?_
  refine vy a_move ?_
  refine vl_nil ?_
  refine vc_block ?_
  refine vc_loop (fun n env => ∃ k : Nat, (k ≤ l.length ∧ (l.take k).find? (fun p => decide (p.1 = s)) = none) ∧ n = l.length - k ∧ Sub (upd (upd (upd (upd (upd (noEnv) (some 0) (.c (.d (.row (l.map pairD))))) (some 1) (.c (.d (.sc (.string s))))) (some 8) (.c (.d (.row (l.map pairD))))) (some 9) (.c (.d (.sc (.int .i64 l.length))))) (some 10) (.c (.d (.sc (.int .i64 (k : Nat)))))) env) (n := l.length - 0) ?_ ?_
  · refine ⟨0, ⟨Nat.zero_le _, rfl⟩, rfl, ?_⟩
    repeat (first | exact sub_no _ | refine su ?_)
  · rintro n env ⟨k, ⟨hk, hno⟩, rfl, hsub⟩
    refine vc_sub hsub ?_
    clear hsub env
    refine vc_then ?_
    refine vc_region ?_
    refine vy (a_bin (hr := by first | exact pr_lss | exact pr_lts)) ?_
    refine vl_nil ?_
    refine vc_then ?_
    refine vif (fun hc1 => ?_) (fun hc1 => ?_)
    · -- yes
      obtain ⟨p, hp⟩ := elem_at hc1
      refine vc_skip ?_
      refine vc_then ?_
      refine vc_block ?_
      refine vc_then ?_
      refine vc_region ?_
      refine vy (a_ix (hT := T.es_28) (h0 := by first | omega | decide) (hy := by exact map_at hp)) ?_
      first | refine vy (a_ldr (hsh := T.ts_55) (hp := by first | rfl)) ?_ | refine vy (a_lda (hsh := T.ts_55) (hp := by first | rfl)) ?_
      refine vs (b_alloc (hz := T.zo_55)) ?_
      refine vs (b_store T.ts_55) ?_
      refine vl_nil ?_
      refine vc_then ?_
      refine vc_region ?_
      first | refine vy (a_fr (hf := T.fo_55_0)) ?_ | refine vy (a_fa (hf := T.fo_55_0)) ?_
      first | refine vy (a_ldr (hsh := T.ts_9) (hp := by first | rfl)) ?_ | refine vy (a_lda (hsh := T.ts_9) (hp := by first | rfl)) ?_
      refine vy a_move ?_
      refine vy (a_bin (hr := by first | exact pr_eql | exact pr_eqs | exact pr_eqb Try.underlying9)) ?_
      refine vl_nil ?_
      refine vif (fun hc2 => ?_) (fun hc2 => ?_)
      · -- yes
        refine vc_then ?_
        refine vc_region ?_
        first | refine vy (a_fr (hf := T.fo_55_1)) ?_ | refine vy (a_fa (hf := T.fo_55_1)) ?_
        first | refine vy (a_ldr (hsh := T.ts_9) (hp := by first | rfl)) ?_ | refine vy (a_lda (hsh := T.ts_9) (hp := by first | rfl)) ?_
        refine vy a_assign ?_
        refine vy a_assign ?_
        refine vl_nil ?_
        refine vc_ret ?_
        refine fin ?_
        simp only [fitsL, fits, C.asD, and_true]
        all_goals (first | (rw [case_hit hp hno (by assumption)]; exact ⟨rfl, rfl⟩) | (rw [case_miss (past_end (by assumption)) hno]; exact ⟨rfl, rfl⟩))
      · -- no
        refine vc_skip ?_
        refine vc_region ?_
        refine vy (a_bin (hr := by first | exact pr_add (by first | exact wrap64 _ (by omega) | rfl) | exact pr_cat (by omega))) ?_
        refine vy a_move ?_
        refine vl_nil ?_
        refine ⟨_, ?_, k + 1, ⟨lt_len hp, find_none hp hno (by assumption)⟩, rfl, ?_⟩
        · have := lt_len hp; omega
        · repeat (first | exact sub_no _ | refine su ?_)
    · -- no
      refine vc_exit ?_
      refine vc_then ?_
      refine vc_region ?_
      refine vy a_assign ?_
      refine vy a_assign ?_
      refine vl_nil ?_
      refine vc_ret ?_
      refine fin ?_
      simp only [fitsL, fits, C.asD, and_true]
      all_goals (first | (rw [case_hit hp hno (by assumption)]; exact ⟨rfl, rfl⟩) | (rw [case_miss (past_end (by assumption)) hno]; exact ⟨rfl, rfl⟩))

set_option maxHeartbeats 1000000 in
theorem refCase_any (l : List (ByteArray × ByteArray)) (s : ByteArray) (hl : l.length ≤ 1000) : Contract Try.prog 24 [.row (l.map pairD), .sc (.string s)] [.d (.sc (.string (caseT l s).1)), .d (.sc (.bool (caseT l s).2))] := by
  refine fn_of (N := 25) [.tmp 4, .tmp 5] Try.func24 ?_
  simp only [envUp, Nat.zero_add, Nat.reduceAdd]
  refine vc_then ?_
  refine vc_region ?_
  refine vy a_assign ?_
  refine vy a_assign ?_
  refine vl_nil ?_
  refine vc_then ?_
  refine vc_then ?_
  refine vc_region ?_
  refine vy a_assign ?_
  refine vl_nil ?_
  refine vc_block ?_
  refine vc_loop (fun n env => ∃ k : Nat, (k ≤ l.length ∧ (l.take k).find? (fun p => decide (p.1 = s)) = none) ∧ n = l.length - k ∧ Sub (upd (upd (upd (noEnv) (some 0) (.c (.d (.row (l.map pairD))))) (some 1) (.c (.d (.sc (.string s))))) (some 6) (.c (.d (.sc (.int .i64 (k : Nat)))))) env) (n := l.length - 0) ?_ ?_
  · refine ⟨0, ⟨Nat.zero_le _, rfl⟩, rfl, ?_⟩
    repeat (first | exact sub_no _ | refine su ?_)
  · rintro n env ⟨k, ⟨hk, hno⟩, rfl, hsub⟩
    refine vc_sub hsub ?_
    clear hsub env
    refine vc_then ?_
    refine vc_then ?_
    refine vc_region ?_
    refine vy a_move ?_
    refine vy a_move ?_
    refine vy (a_len (hT := T.es_28)) ?_
    refine vy (a_bin (hr := by first | exact pr_lss | exact pr_lts)) ?_
    refine vl_nil ?_
    refine vif (fun hc1 => ?_) (fun hc1 => ?_)
    · -- yes
      obtain ⟨p, hp⟩ := elem_at hc1
      refine vc_skip ?_
      refine vc_then ?_
      refine vc_block ?_
      refine vc_then ?_
      refine vc_region ?_
      refine vy a_move ?_
      refine vy a_move ?_
      refine vy (a_ix (hT := T.es_28) (h0 := by first | omega | decide) (hy := by exact map_at hp)) ?_
      first | refine vy (a_fr (hf := T.fo_55_0)) ?_ | refine vy (a_fa (hf := T.fo_55_0)) ?_
      first | refine vy (a_ldr (hsh := T.ts_9) (hp := by first | rfl)) ?_ | refine vy (a_lda (hsh := T.ts_9) (hp := by first | rfl)) ?_
      refine vy a_move ?_
      refine vy (a_bin (hr := by first | exact pr_eql | exact pr_eqs | exact pr_eqb Try.underlying9)) ?_
      refine vl_nil ?_
      refine vif (fun hc2 => ?_) (fun hc2 => ?_)
      · -- yes
        refine vc_then ?_
        refine vc_region ?_
        refine vy a_move ?_
        refine vy a_move ?_
        refine vy (a_ix (hT := T.es_28) (h0 := by first | omega | decide) (hy := by exact map_at hp)) ?_
        first | refine vy (a_fr (hf := T.fo_55_1)) ?_ | refine vy (a_fa (hf := T.fo_55_1)) ?_
        first | refine vy (a_ldr (hsh := T.ts_9) (hp := by first | rfl)) ?_ | refine vy (a_lda (hsh := T.ts_9) (hp := by first | rfl)) ?_
        refine vy a_assign ?_
        refine vy a_assign ?_
        refine vl_nil ?_
        refine vc_ret ?_
        refine fin ?_
        simp only [fitsL, fits, C.asD, and_true]
        all_goals (first | (rw [case_hit hp hno (by assumption)]; exact ⟨rfl, rfl⟩) | (rw [case_miss (past_end (by assumption)) hno]; exact ⟨rfl, rfl⟩))
      · -- no
        refine vc_skip ?_
        refine vc_region ?_
        refine vy a_move ?_
        refine vy (a_bin (hr := by first | exact pr_add (by first | exact wrap64 _ (by omega) | rfl) | exact pr_cat (by omega))) ?_
        refine vy a_assign ?_
        refine vl_nil ?_
        refine ⟨_, ?_, k + 1, ⟨lt_len hp, find_none hp hno (by assumption)⟩, rfl, ?_⟩
        · have := lt_len hp; omega
        · repeat (first | exact sub_no _ | refine su ?_)
    · -- no
      refine vc_exit ?_
      refine vc_then ?_
      refine vc_region ?_
      refine vy a_assign ?_
      refine vy a_assign ?_
      refine vl_nil ?_
      refine vc_ret ?_
      refine fin ?_
      simp only [fitsL, fits, C.asD, and_true]
      all_goals (first | (rw [case_hit hp hno (by assumption)]; exact ⟨rfl, rfl⟩) | (rw [case_miss (past_end (by assumption)) hno]; exact ⟨rfl, rfl⟩))
end Go.Vm
