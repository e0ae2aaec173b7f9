/- Part 4 of what the proof of TreeOrders stands on: LnTables, LnLensS, LnLens, LnLens2, LnLens3, LnMerged, LnArr, LnApply, LnApplyR, Xg9, TrPlain, TrSettleP, TrSortP, TrCmp, XgU, TrSort, TrEq, TrTags, TrAt, TrReads, TrRefP, TrEdge, TrRef, TrRef2, TrTagsOf. -/
import Derived.Test.YtkgkljphjlikoaaTreeOrdersM3
section
namespace Go.Vm
open Go.RowKit Go.Proofs
set_option linter.unusedVariables false
set_option linter.unusedSimpArgs false
set_option maxRecDepth 10000

theorem pairs_wide {l : List (ByteArray × ByteArray)} : ∀ x ∈ l.map pairD, x.cells.length = 2 := by
  intro x hx; obtain ⟨y, _, rfl⟩ := List.mem_map.1 hx; rfl
theorem rs_wide {l : List RefD} : ∀ x ∈ l.map rD, x.cells.length = 3 := by
  intro x hx; obtain ⟨y, _, rfl⟩ := List.mem_map.1 hx; rfl
theorem find_none {l : List (ByteArray × ByteArray)} {s : ByteArray} {k : Nat} {p : ByteArray × ByteArray} (hp : l[k]? = some p) (h : (l.take k).find? (fun p => decide (p.1 = s)) = none) (hn : ¬ p.1 = s) : (l.take (k + 1)).find? (fun p => decide (p.1 = s)) = none := by
  rw [List.take_add_one, hp, List.find?_append, h]; simp [hn]
theorem case_hit {l : List (ByteArray × ByteArray)} {s : ByteArray} {k : Nat} {p : ByteArray × ByteArray} (hp : l[k]? = some p) (h : (l.take k).find? (fun p => decide (p.1 = s)) = none) (hn : p.1 = s) : caseT l s = (p.2, true) := by
  obtain ⟨hlt, hpe⟩ := List.getElem?_eq_some_iff.1 hp
  have e : l = l.take k ++ p :: l.drop (k + 1) := by rw [← hpe, ← List.drop_eq_getElem_cons hlt, List.take_append_drop]
  unfold caseT
  rw [e, List.find?_append, h]; simp [hn]
theorem case_miss {l : List (ByteArray × ByteArray)} {s : ByteArray} {k : Nat} (hk : l.length ≤ k) (h : (l.take k).find? (fun p => decide (p.1 = s)) = none) : caseT l s = (noB, false) := by
  rw [List.take_of_length_le hk] at h
  unfold caseT; rw [h]
theorem froms_next {l : List (ByteArray × ByteArray)} {k : Nat} {p : ByteArray × ByteArray} (hp : l[k]? = some p) : froms (l.take (k + 1)) = froms (l.take k) ++ [p.1] := by
  unfold froms; rw [take_next hp]; simp
theorem froms_len {l : List (ByteArray × ByteArray)} {k n : Nat} (h : l.length ≤ n) : (froms (l.take k)).length ≤ n := by unfold froms; rw [List.length_map]; exact length_take_le h
theorem take_length {α : Type} {l : List α} {k : Nat} (h : k < l.length) : (l.take k).length = k := by rw [List.length_take]; omega
def heavyP (l : List (ByteArray × ByteArray)) : Bool := decide (20 < l.length) || l.any (fun p => decide (200 < p.1.size) || decide (200 < p.2.size))
theorem heavyP_ok {l : List (ByteArray × ByteArray)} (h : heavyP l = false) : l.length ≤ 20 := by unfold heavyP at h; simp only [Bool.or_eq_false_iff, decide_eq_false_iff_not] at h; omega
def heavyL (x : LensD) : Bool := decide (200 < x.at_.group.size) || decide (200 < x.at_.name.size) || decide (200 < x.name.size) || decide (200 < x.other.size) || heavyF x.field || heavyP x.forth || heavyP x.back
theorem heavyL_ok {x : LensD} (h : heavyL x = false) : okX x := by
  unfold heavyL at h; simp only [Bool.or_eq_false_iff] at h
  have h1 := heavyF_ok h.1.1.2
  have h2 := heavyP_ok h.1.2
  have h3 := heavyP_ok h.2
  exact ⟨by omega, by omega, by omega⟩

theorem froms_no {l : List (ByteArray × ByteArray)} {s : ByteArray} {j : Nat} {q : ByteArray × ByteArray} (hq : l[j]? = some q) (h : s ∉ froms (l.take j)) (hn : ¬ q.1 = s) : s ∉ froms (l.take (j + 1)) := by
  rw [froms_next hq, List.mem_append, List.mem_singleton]
  rintro (k | k)
  · exact h k
  · exact hn k.symm
theorem froms_mem {l : List (ByteArray × ByteArray)} {s : ByteArray} {j : Nat} {q : ByteArray × ByteArray} (hq : l[j]? = some q) (h : q.1 = s) : s ∈ froms l := by
  rw [← h]; exact List.mem_map.2 ⟨q, List.mem_of_getElem? hq, rfl⟩

set_option maxHeartbeats 1000000 in
theorem case_any (l : (List (ByteArray × ByteArray))) (s : ByteArray) (hl : l.length ≤ 1000) : Contract Try.prog 108 [.row (l.map pairD), .sc (.string s)] [.d (.sc (.string (caseT l s).1)), .d (.sc (.bool (caseT l s).2))] := by
 refine T.fn [] Try.func108 ?_
 refine x_len ?_
 refine xloopR (fb := []) T.ok (Nat.le_of_ble_eq_true rfl) [1, 8, 9] (fun (k : Nat) => [(10, .c (.d (.sc (.int .i64 (k : Nat)))))]) (fun k => k ≤ l.length ∧ (l.take k).find? (fun p => decide (p.1 = s)) = none) (fun k => l.length - k) 0 ⟨Nat.zero_le _, rfl⟩ (x_ent (by first | rfl | (simp only [Tr.get]; simp; done)) trivial) ?_
 rintro k ⟨hk, hi⟩
 refine br (fun hc1 => ?y1) (fun hc1 => ?n1)
 case' y1 =>
  obtain ⟨p, hp⟩ := elem_at hc1
  have hkl := lt_len hp
  first | refine x_ix (by exact mapAt hp) ?_ | refine x_ixI (by exact mapAt hp) ?_
  refine br (fun hc2 => ?y2) (fun hc2 => ?n2)
  case' n2 =>
   first | refine x_inc ?_ | refine x_add ?_ | refine x_bin rfl rfl ?_
   refine x_rnd (k + 1) ⟨lt_len hp, find_none hp hi (by assumption)⟩ (by (try dsimp only); have := lt_len hp; omega) rfl (x_ent (by first | rfl | (simp only [Tr.get]; simp; done)) trivial) rfl
 all_goals (refine x_ret ?_; simp only [fitsL, fits, C.asD, and_true] <;> (first | (rw [case_hit hp hi (by assumption)]; exact ⟨rfl, rfl⟩) | (rw [case_miss (past_end (by assumption)) hi]; exact ⟨rfl, rfl⟩)))

set_option maxHeartbeats 1000000 in
theorem refCase_any (l : (List (ByteArray × ByteArray))) (s : ByteArray) (hl : l.length ≤ 1000) : Contract Try.prog 48 [.row (l.map pairD), .sc (.string s)] [.d (.sc (.string (caseT l s).1)), .d (.sc (.bool (caseT l s).2))] := by
 refine T.fn [] Try.func48 ?_
 refine xloopR (fb := []) T.ok (Nat.le_of_ble_eq_true rfl) [0, 1] (fun (k : Nat) => [(6, .c (.d (.sc (.int .i64 (k : Nat)))))]) (fun k => k ≤ l.length ∧ (l.take k).find? (fun p => decide (p.1 = s)) = none) (fun k => l.length - k) 0 ⟨Nat.zero_le _, rfl⟩ (x_ent (by first | rfl | (simp only [Tr.get]; simp; done)) trivial) ?_
 rintro k ⟨hk, hi⟩
 refine x_len ?_
 refine br (fun hc1 => ?y1) (fun hc1 => ?n1)
 case' y1 =>
  obtain ⟨p, hp⟩ := elem_at hc1
  have hkl := lt_len hp
  first | refine x_ix (by exact mapAt hp) ?_ | refine x_ixI (by exact mapAt hp) ?_
  refine br (fun hc2 => ?y2) (fun hc2 => ?n2)
  case' y2 =>
   first | refine x_ix (by exact mapAt hp) ?_ | refine x_ixI (by exact mapAt hp) ?_
  case' n2 =>
   first | refine x_inc ?_ | refine x_add ?_ | refine x_bin rfl rfl ?_
   refine x_rnd (k + 1) ⟨lt_len hp, find_none hp hi (by assumption)⟩ (by (try dsimp only); have := lt_len hp; omega) rfl (x_ent (by first | rfl | (simp only [Tr.get]; simp; done)) trivial) rfl
 all_goals (refine x_ret ?_; simp only [fitsL, fits, C.asD, and_true] <;> (first | (rw [case_hit hp hi (by assumption)]; exact ⟨rfl, rfl⟩) | (rw [case_miss (past_end (by assumption)) hi]; exact ⟨rfl, rfl⟩)))

set_option maxHeartbeats 1000000 in
theorem samePairs_any (l m : (List (ByteArray × ByteArray))) (hl : l.length ≤ 1000) : Contract Try.prog 59 [.row (l.map pairD), .row (m.map pairD)] [.d (.sc (.bool (decide (l = m))))] := by
 refine T.fn [] Try.func59 ?_
 refine x_len ?_
 refine x_len ?_
 refine br (fun hc1 => ?y1) (fun hc1 => ?n1)
 case' n1 =>
  have hlen : l.length = m.length := by omega
  refine x_len ?_
  refine xloopR (fb := []) T.ok (Nat.le_of_ble_eq_true rfl) [0, 1, 12] (fun (k : Nat) => [(13, .c (.d (.sc (.int .i64 (k : Nat)))))]) (fun k => k ≤ l.length ∧ l.take k = m.take k) (fun k => l.length - k) 0 ⟨Nat.zero_le _, rfl⟩ (x_ent (by first | rfl | (simp only [Tr.get]; simp; done)) trivial) ?_
  rintro k ⟨hk, hi⟩
  refine br (fun hc2 => ?y2) (fun hc2 => ?n2)
  case' y2 =>
   obtain ⟨p, hp⟩ := elem_at hc2
   have hkl := lt_len hp
   obtain ⟨q, hq⟩ := elem_too hp hlen
   refine And.intro ⟨T.mixed, by decide +kernel⟩ ?_
   first | refine x_ix (by first | exact mapAt hp | exact mapAt hq) ?_ | refine x_ixI (by first | exact mapAt hp | exact mapAt hq) ?_
   first | refine x_ix (by first | exact mapAt hp | exact mapAt hq) ?_ | refine x_ixI (by first | exact mapAt hp | exact mapAt hq) ?_
   refine xeq_38n _ _ ?_
   refine br (fun hc3 => ?y3) (fun hc3 => ?n3)
   case' n3 =>
    first | refine x_inc ?_ | refine x_add ?_ | refine x_bin rfl rfl ?_
    refine x_rnd (k + 1) ⟨lt_len hp, take_eq_next hp hq hi (by simp_all)⟩ (by (try dsimp only); have := lt_len hp; omega) rfl (x_ent (by first | rfl | (simp only [Tr.get]; simp; done)) trivial) rfl
 all_goals (refine x_ret ?_; simp only [fitsL, fits, C.asD, and_true] <;> (refine scb ?_; first | exact (decide_eq_false (fun e => by simp_all)).symm | exact (decide_eq_false (ne_at hp hq (fun e => by simp_all))).symm | exact (decide_eq_true (take_eq_end hlen (past_end (by assumption)) hi)).symm))

set_option maxHeartbeats 1000000 in
theorem refSamePairs_any (l m : (List (ByteArray × ByteArray))) (hl : l.length ≤ 1000) : Contract Try.prog 61 [.row (l.map pairD), .row (m.map pairD)] [.d (.sc (.bool (decide (l = m))))] := by
 refine T.fn [] Try.func61 ?_
 refine x_len ?_
 refine x_len ?_
 refine br (fun hc1 => ?y1) (fun hc1 => ?n1)
 case' n1 =>
  have hlen : l.length = m.length := by omega
  refine xloopR (fb := []) T.ok (Nat.le_of_ble_eq_true rfl) [0, 1] (fun (k : Nat) => [(5, .c (.d (.sc (.int .i64 (k : Nat)))))]) (fun k => k ≤ l.length ∧ l.take k = m.take k) (fun k => l.length - k) 0 ⟨Nat.zero_le _, rfl⟩ (x_ent (by first | rfl | (simp only [Tr.get]; simp; done)) trivial) ?_
  rintro k ⟨hk, hi⟩
  refine x_len ?_
  refine br (fun hc2 => ?y2) (fun hc2 => ?n2)
  case' y2 =>
   obtain ⟨p, hp⟩ := elem_at hc2
   have hkl := lt_len hp
   obtain ⟨q, hq⟩ := elem_too hp hlen
   refine And.intro ⟨T.mixed, by decide +kernel⟩ ?_
   first | refine x_ix (by first | exact mapAt hp | exact mapAt hq) ?_ | refine x_ixI (by first | exact mapAt hp | exact mapAt hq) ?_
   first | refine x_ix (by first | exact mapAt hp | exact mapAt hq) ?_ | refine x_ixI (by first | exact mapAt hp | exact mapAt hq) ?_
   refine xeq_38n _ _ ?_
   refine br (fun hc3 => ?y3) (fun hc3 => ?n3)
   case' n3 =>
    first | refine x_inc ?_ | refine x_add ?_ | refine x_bin rfl rfl ?_
    refine x_rnd (k + 1) ⟨lt_len hp, take_eq_next hp hq hi (by simp_all)⟩ (by (try dsimp only); have := lt_len hp; omega) rfl (x_ent (by first | rfl | (simp only [Tr.get]; simp; done)) trivial) rfl
 all_goals (refine x_ret ?_; simp only [fitsL, fits, C.asD, and_true] <;> (refine scb ?_; first | exact (decide_eq_false (fun e => by simp_all)).symm | exact (decide_eq_false (ne_at hp hq (fun e => by simp_all))).symm | exact (decide_eq_true (take_eq_end hlen (past_end (by assumption)) hi)).symm))

set_option maxHeartbeats 1000000 in
theorem froms_any (l : (List (ByteArray × ByteArray))) (hl : l.length ≤ 1000) : Contract Try.prog 126 [.row (l.map pairD)] [.d (.row ((froms l).map strD))] := by
 refine T.fn [] Try.func126 ?_
 refine x_len ?_
 refine x_make ?_
 refine x_len ?_
 refine xloopR (fb := []) T.ok (Nat.le_of_ble_eq_true rfl) [9, 10] (fun (s : Nat × Nat × List ByteArray) => [(11, .c (.d (.sc (.int .i64 ((s.1 : Nat) : Int))))), (3, .c (.own 8 9 (s.2.2.map strD)))]) (fun s => s.1 ≤ l.length ∧ s.2.2 = froms (l.take s.1)) (fun s => l.length - s.1) (0, 8, []) ⟨Nat.zero_le _, rfl⟩ (x_ent (by first | rfl | (simp only [Tr.get]; simp; done)) (x_ent (by first | rfl | (simp only [Tr.get]; simp; done)) trivial)) ?_
 rintro s ⟨hk, hA⟩
 have hAl : s.2.2.length ≤ 1000 := by rw [hA]; exact froms_len hl
 refine br (fun hc1 => ?y1) (fun hc1 => ?n1)
 case' y1 =>
  obtain ⟨p, hp⟩ := elem_at hc1
  have hkl := lt_len hp
  first | refine x_ix (by exact mapAt hp) ?_ | refine x_ixI (by exact mapAt hp) ?_
  first | refine x_app ?_ (by first | exact strs_wide | exact pairs_wide | exact rs_wide | exact fD_wide | (simp [D.cells])) (hz := by first | exact snoc_map (g := strD) | exact one_map (g := strD) | rfl) | refine x_appN ?_ (by first | exact strs_wide | exact pairs_wide | exact rs_wide | exact fD_wide | (simp [D.cells]))
  first | refine x_bin (pr_add1 (by omega)) rfl ?_ | refine x_inc ?_ | refine x_add ?_ | refine x_bin rfl rfl ?_
  refine x_rnd (s.1 + 1, 0, s.2.2 ++ [p.1]) ⟨lt_len hp, by rw [hA]; exact (froms_next hp).symm⟩ (by (try dsimp only); have := lt_len hp; (try dsimp only); omega) rfl (x_ent (by first | rfl | (simp only [Tr.get]; simp; done)) (x_ent (by first | rfl | (simp only [Tr.get]; simp; done)) trivial)) rfl
 all_goals (refine x_ret ?_; simp only [fitsL, fits, C.asD, and_true] <;> (refine row_inj ?_; rw [hA, List.take_of_length_le (past_end (by assumption))]))

set_option maxHeartbeats 1000000 in
theorem refFroms_any (l : (List (ByteArray × ByteArray))) (hl : l.length ≤ 1000) : Contract Try.prog 104 [.row (l.map pairD)] [.d (.row ((froms l).map strD))] := by
 refine T.fn [] Try.func104 ?_
 refine xloopR (fb := []) T.ok (Nat.le_of_ble_eq_true rfl) [0] (fun (s : Nat × Nat × List ByteArray) => [(4, .c (.d (.sc (.int .i64 ((s.1 : Nat) : Int))))), (3, .c (.own 5 9 (s.2.2.map strD)))]) (fun s => s.1 ≤ l.length ∧ s.2.2 = froms (l.take s.1)) (fun s => l.length - s.1) (0, 5, []) ⟨Nat.zero_le _, rfl⟩ (x_ent (by first | rfl | (simp only [Tr.get]; simp; done)) (x_ent (by first | rfl | (simp only [Tr.get]; simp; done)) trivial)) ?_
 rintro s ⟨hk, hA⟩
 have hAl : s.2.2.length ≤ 1000 := by rw [hA]; exact froms_len hl
 refine x_len ?_
 refine br (fun hc1 => ?y1) (fun hc1 => ?n1)
 case' y1 =>
  obtain ⟨p, hp⟩ := elem_at hc1
  have hkl := lt_len hp
  first | refine x_ix (by exact mapAt hp) ?_ | refine x_ixI (by exact mapAt hp) ?_
  first | refine x_app ?_ (by first | exact strs_wide | exact pairs_wide | exact rs_wide | exact fD_wide | (simp [D.cells])) (hz := by first | exact snoc_map (g := strD) | exact one_map (g := strD) | rfl) | refine x_appN ?_ (by first | exact strs_wide | exact pairs_wide | exact rs_wide | exact fD_wide | (simp [D.cells]))
  first | refine x_bin (pr_add1 (by omega)) rfl ?_ | refine x_inc ?_ | refine x_add ?_ | refine x_bin rfl rfl ?_
  refine x_rnd (s.1 + 1, 0, s.2.2 ++ [p.1]) ⟨lt_len hp, by rw [hA]; exact (froms_next hp).symm⟩ (by (try dsimp only); have := lt_len hp; (try dsimp only); omega) rfl (x_ent (by first | rfl | (simp only [Tr.get]; simp; done)) (x_ent (by first | rfl | (simp only [Tr.get]; simp; done)) trivial)) rfl
 all_goals (refine x_ret ?_; simp only [fitsL, fits, C.asD, and_true] <;> (refine row_inj ?_; rw [hA, List.take_of_length_le (past_end (by assumption))]))

set_option maxHeartbeats 1000000 in
theorem heavyPairs_any (l : (List (ByteArray × ByteArray))) : Contract Try.prog 43 [.row (l.map pairD)] [.d (.sc (.bool (heavyP l)))] := by
 refine T.fn [] Try.func43 ?_
 refine x_len ?_
 refine br (fun hc1 => ?y1) (fun hc1 => ?n1)
 case' n1 =>
  have h20 : l.length ≤ 20 := by omega
  refine xloopR (fb := []) T.ok (Nat.le_of_ble_eq_true rfl) [0] (fun (k : Nat) => [(3, .c (.d (.sc (.int .i64 (k : Nat)))))]) (fun k => k ≤ l.length ∧ (l.take k).any (fun p => decide (200 < p.1.size) || decide (200 < p.2.size)) = false ∧ l.length ≤ 20) (fun k => l.length - k) 0 ⟨Nat.zero_le _, ⟨rfl, h20⟩⟩ (x_ent (by first | rfl | (simp only [Tr.get]; simp; done)) trivial) ?_
  rintro k ⟨hk, hi⟩
  refine x_len ?_
  refine br (fun hc2 => ?y2) (fun hc2 => ?n2)
  case' y2 =>
   obtain ⟨p, hp⟩ := elem_at hc2
   have hkl := lt_len hp
   first | refine x_ix (by exact mapAt hp) ?_ | refine x_ixI (by exact mapAt hp) ?_
   refine x_len ?_
   refine br (fun hg3 => ?y3) (fun hg3 => ?n3)
   case' y3 =>
    refine brT ?_
   case' n3 =>
    first | refine x_ix (by exact mapAt hp) ?_ | refine x_ixI (by exact mapAt hp) ?_
    refine x_len ?_
    refine br (fun hc5 => ?y5) (fun hc5 => ?n5)
    case' n5 =>
     first | refine x_inc ?_ | refine x_add ?_ | refine x_bin rfl rfl ?_
     refine x_rnd (k + 1) ⟨lt_len hp, any_next hp hi.1 (by simp; omega), hi.2⟩ (by (try dsimp only); have := lt_len hp; omega) rfl (x_ent (by first | rfl | (simp only [Tr.get]; simp; done)) trivial) rfl
 all_goals (refine x_ret ?_; simp only [fitsL, fits, C.asD, and_true] <;> (refine scb ?_; first | (have hh := any_hit (f := fun p : ByteArray × ByteArray => decide (200 < p.1.size) || decide (200 < p.2.size)) hp (by simp; omega); unfold heavyP; rw [hh, Bool.or_true]; done) | (have hh := any_end (past_end (by assumption)) hi.1; unfold heavyP; rw [hh, Bool.or_false]; symm; simp only [decide_eq_true_eq, decide_eq_false_iff_not, Bool.not_eq_true', Bool.not_eq_false', Bool.and_eq_true, Bool.or_eq_true, Bool.or_eq_false_iff, Bool.and_eq_false_iff, beq_iff_eq, beq_eq_false_iff_ne, ne_eq, Bool.not_true, Bool.not_false, Bool.false_eq_true, Bool.true_eq_false] at * <;> omega) | (symm; unfold heavyP; simp only [decide_eq_true_eq, decide_eq_false_iff_not, Bool.not_eq_true', Bool.not_eq_false', Bool.and_eq_true, Bool.or_eq_true, Bool.or_eq_false_iff, Bool.and_eq_false_iff, beq_iff_eq, beq_eq_false_iff_ne, ne_eq, Bool.not_true, Bool.not_false, Bool.false_eq_true, Bool.true_eq_false] at * <;> omega)))

set_option maxHeartbeats 1000000 in
theorem refTable_any (l m : (List (ByteArray × ByteArray))) (hl : l.length ≤ 1000) (hm : m.length ≤ 1000) : Contract Try.prog 49 [.row (l.map pairD), .row (m.map pairD)] [.d (.sc (.bool (rightT l m)))] := by
 refine T.fn [] Try.func49 ?_
 refine x_len ?_
 refine br (fun hg1 => ?y1) (fun hg1 => ?n1)
 case' y1 =>
  refine brT ?_
 case' n1 =>
  refine x_len ?_
  refine br (fun hc3 => ?y3) (fun hc3 => ?n3)
  case' n3 =>
   have hlo : 1 ≤ l.length := by omega
   have hhi : l.length ≤ 6 := by omega
   refine xloopR (fb := []) T.ok (Nat.le_of_ble_eq_true rfl) [0, 1] (fun (k : Nat) => [(5, .c (.d (.sc (.int .i64 (k : Nat)))))]) (fun k => k ≤ l.length ∧ okT l m k = true ∧ 1 ≤ l.length ∧ l.length ≤ 6) (fun k => l.length - k) 0 ⟨Nat.zero_le _, ⟨okT_zero l m, hlo, hhi⟩⟩ (x_ent (by first | rfl | (simp only [Tr.get]; simp; done)) trivial) ?_
   rintro k ⟨hk, hi⟩
   refine x_len ?_
   refine br (fun hc4 => ?y4) (fun hc4 => ?n4)
   case' y4 =>
    obtain ⟨p, hp⟩ := elem_at hc4
    have hkl := lt_len hp
    refine And.intro ⟨T.mixed, by decide +kernel⟩ ?_
    first | refine x_ix (by exact mapAt hp) ?_ | refine x_ixI (by exact mapAt hp) ?_
    refine x_call T.en_50 (refName_any _) ?_
    refine br (fun hg5 => ?y5) (fun hg5 => ?n5)
    case' y5 =>
     refine brT ?_
     refine brT ?_
    case' n5 =>
     first | refine x_bnd ?_ | refine x_bndI ?_
     refine x_row ?_ (by first | exact strs_wide | exact pairs_wide | exact rs_wide | exact fD_wide | (simp [D.cells])) (hy := by first | exact take_fold | rfl)
     refine x_call T.en_104 (refFroms_any _ (by first | assumption | exact hx0.2.1 | exact hx0.2.2 | (rw [List.length_take]; omega))) ?_
     first | refine x_ix (by exact mapAt hp) ?_ | refine x_ixI (by exact mapAt hp) ?_
     refine x_call T.en_103 (refHas_any _ _ (by first | (have := froms_len (k := k) hl; omega) | (have : (froms m).length ≤ 1000 := by unfold froms; rw [List.length_map]; exact hm); omega)) ?_
     refine br (fun hg8 => ?y8) (fun hg8 => ?n8)
     case' y8 =>
      refine brT ?_
     case' n8 =>
      refine x_call T.en_104 (refFroms_any _ (by first | assumption | exact hx0.2.1 | exact hx0.2.2 | (rw [List.length_take]; omega))) ?_
      first | refine x_ix (by exact mapAt hp) ?_ | refine x_ixI (by exact mapAt hp) ?_
      refine x_call T.en_103 (refHas_any _ _ (by first | (have := froms_len (k := k) hl; omega) | (have : (froms m).length ≤ 1000 := by unfold froms; rw [List.length_map]; exact hm); omega)) ?_
      refine br (fun hc10 => ?y10) (fun hc10 => ?n10)
      case' n10 =>
       first | refine x_inc ?_ | refine x_add ?_ | refine x_bin rfl rfl ?_
       refine x_rnd (k + 1) ⟨lt_len hp, okT_next hp hi.1 (by simp_all) (by simp_all) (by simp_all), hi.2⟩ (by (try dsimp only); have := lt_len hp; omega) rfl (x_ent (by first | rfl | (simp only [Tr.get]; simp; done)) trivial) rfl
 all_goals (refine x_ret ?_; simp only [fitsL, fits, C.asD, and_true] <;> (refine scb ?_; first | (refine (rightT_short ?_).symm; omega; done) | (refine (rightT_long ?_).symm; omega; done) | exact (rightT_yes hi.2.1 hi.2.2 (past_end (by assumption)) hi.1).symm | (refine (rightT_no hp ?_).symm; simp_all; done)))

set_option maxHeartbeats 1000000 in
theorem rightTable_any (l m : (List (ByteArray × ByteArray))) (hl : l.length ≤ 1000) (hm : m.length ≤ 1000) : Contract Try.prog 107 [.row (l.map pairD), .row (m.map pairD)] [.d (.sc (.bool (rightT l m)))] := by
 refine T.fn [] Try.func107 ?_
 refine x_len ?_
 refine br (fun hg1 => ?y1) (fun hg1 => ?n1)
 case' y1 =>
  refine brT ?_
 case' n1 =>
  refine x_len ?_
  refine br (fun hc3 => ?y3) (fun hc3 => ?n3)
  case' n3 =>
   have hlo : 1 ≤ l.length := by omega
   have hhi : l.length ≤ 6 := by omega
   refine x_len ?_
   refine xloopR (fb := []) T.ok (Nat.le_of_ble_eq_true rfl) [0, 1, 19, 20] (fun (k : Nat) => [(21, .c (.d (.sc (.int .i64 (k : Nat)))))]) (fun k => k ≤ l.length ∧ okT l m k = true ∧ 1 ≤ l.length ∧ l.length ≤ 6) (fun k => l.length - k) 0 ⟨Nat.zero_le _, ⟨okT_zero l m, hlo, hhi⟩⟩ (x_ent (by first | rfl | (simp only [Tr.get]; simp; done)) trivial) ?_
   rintro k ⟨hk, hi⟩
   refine br (fun hc4 => ?y4) (fun hc4 => ?n4)
   case' y4 =>
    obtain ⟨p, hp⟩ := elem_at hc4
    have hkl := lt_len hp
    first | refine x_ix (by first | exact mapAt hp | exact mapAt hq) ?_ | refine x_ixI (by first | exact mapAt hp | exact mapAt hq) ?_
    refine x_call T.en_54 (name_any _) ?_
    refine br (fun hc5 => ?y5) (fun hc5 => ?n5)
    case' n5 =>
     first | refine x_bnd ?_ | refine x_bndI ?_
     refine x_row ?_ (by first | exact strs_wide | exact pairs_wide | exact rs_wide | exact fD_wide | (simp [D.cells])) (hy := by first | exact take_fold | rfl)
     refine x_len ?_
     refine xloopR (fb := []) T.ok (Nat.le_of_ble_eq_true rfl) [0, 1, 6, 19, 20, 21, 32, 33] (fun (j : Nat) => [(34, .c (.d (.sc (.int .i64 (j : Nat)))))]) (fun j => j ≤ (l.take k).length ∧ p.1 ∉ froms ((l.take k).take j)) (fun j => (l.take k).length - j) 0 ⟨Nat.zero_le _, by simp [froms]⟩ (x_ent (by first | rfl | (simp only [Tr.get]; simp; done)) trivial) ?_
     rintro j ⟨hjk, hj⟩
     have htl : (l.take k).length ≤ 6 := by rw [List.length_take]; omega
     refine br (fun hc6 => ?y6) (fun hc6 => ?n6)
     case' y6 =>
      obtain ⟨q, hq⟩ := elem_at hc6
      have hkl2 := lt_len hq
      first | refine x_ix (by first | exact mapAt hp | exact mapAt hq) ?_ | refine x_ixI (by first | exact mapAt hp | exact mapAt hq) ?_
      refine br (fun hc7 => ?y7) (fun hc7 => ?n7)
      case' n7 =>
       first | refine x_inc ?_ | refine x_add ?_ | refine x_bin rfl rfl ?_
       refine x_rnd (j + 1) ⟨lt_len hq, froms_no hq hj (by assumption)⟩ (by (try dsimp only); have := lt_len hq; omega) rfl (x_ent (by first | rfl | (simp only [Tr.get]; simp; done)) trivial) rfl
     case' n6 =>
      have hjn : ¬ p.1 ∈ froms (l.take k) := by have h0 := past_end hc6; rw [List.take_of_length_le h0] at hj; exact hj
      refine x_call T.en_108 (case_any _ _ hm) ?_
      refine br (fun hc8 => ?y8) (fun hc8 => ?n8)
      case' n8 =>
       first | refine x_inc ?_ | refine x_add ?_ | refine x_bin rfl rfl ?_
       refine x_rnd (k + 1) ⟨lt_len hp, okT_next hp hi.1 (by simp_all) hjn (by have := caseT_some (t := m) (s := p.2); simp_all), hi.2⟩ (by (try dsimp only); have := lt_len hp; omega) rfl (x_ent (by first | rfl | (simp only [Tr.get]; simp; done)) trivial) rfl
 all_goals (refine x_ret ?_; simp only [fitsL, fits, C.asD, and_true] <;> (refine scb ?_; first | (refine (rightT_short ?_).symm; omega; done) | (refine (rightT_long ?_).symm; omega; done) | exact (rightT_yes hi.2.1 hi.2.2 (past_end (by assumption)) hi.1).symm | (refine (rightT_no hp ?_).symm; have hm1 := froms_mem hq (by assumption); simp [hm1]; done) | (refine (rightT_no hp ?_).symm; have := caseT_some (t := m) (s := p.2); simp_all; done)))
end Go.Vm
end
section
namespace Go.Vm
open Go.RowKit Go.Proofs
set_option linter.unusedVariables false
set_option linter.unusedSimpArgs false
set_option maxRecDepth 10000

set_option maxHeartbeats 1000000 in
theorem lensSame_any (x y : LensD) (hx0 : okX x) : Contract Try.prog 10 [lD x, lD y] [.d (.sc (.bool (decide (x = y))))] := by
 refine T.fn [] Try.func10 ?_
 refine br (fun hg1 => ?y1) (fun hg1 => ?n1)
 case' y1 =>
  first | refine xeq_23e _ _ ?_ | refine xeq_23e _ noRef ?_ | refine xeq_23e noRef _ ?_
  refine br (fun hg2 => ?y2) (fun hg2 => ?n2)
  case' y2 =>
   refine br (fun hg3 => ?y3) (fun hg3 => ?n3)
   case' y3 =>
    refine br (fun hg4 => ?y4) (fun hg4 => ?n4)
    case' y4 =>
     refine br (fun hg5 => ?y5) (fun hg5 => ?n5)
     case' y5 =>
      refine x_call T.en_58 (fieldSame_any _ _ (by first | assumption | exact hx0.1)) ?_
      refine br (fun hg6 => ?y6) (fun hg6 => ?n6)
      case' y6 =>
       refine x_call T.en_59 (samePairs_any _ _ (by first | assumption | exact hx0.2.1 | exact hx0.2.2)) ?_
       refine br (fun hg7 => ?y7) (fun hg7 => ?n7)
       case' y7 =>
        refine x_call T.en_59 (samePairs_any _ _ (by first | assumption | exact hx0.2.1 | exact hx0.2.2)) ?_
      case' n6 =>
       refine brF ?_
     case' n5 =>
      refine brF ?_
      refine brF ?_
    case' n4 =>
     refine brF ?_
     refine brF ?_
     refine brF ?_
   case' n3 =>
    refine brF ?_
    refine brF ?_
    refine brF ?_
    refine brF ?_
  case' n2 =>
   refine brF ?_
   refine brF ?_
   refine brF ?_
   refine brF ?_
   refine brF ?_
 case' n1 =>
  refine brF ?_
  refine brF ?_
  refine brF ?_
  refine brF ?_
  refine brF ?_
  refine brF ?_
 all_goals (refine x_ret ?_; simp only [fitsL, fits, C.asD, and_true] <;> (refine scb ?_; clear hx0; cases x; cases y; simp_all))

set_option maxHeartbeats 1000000 in
theorem refLensSame_any (x y : LensD) (hx0 : okX x) : Contract Try.prog 11 [lD x, lD y] [.d (.sc (.bool (decide (x = y))))] := by
 refine T.fn [] Try.func11 ?_
 refine br (fun hg1 => ?y1) (fun hg1 => ?n1)
 case' y1 =>
  first | refine xeq_23e _ _ ?_ | refine xeq_23e _ noRef ?_ | refine xeq_23e noRef _ ?_
  refine br (fun hg2 => ?y2) (fun hg2 => ?n2)
  case' y2 =>
   refine br (fun hg3 => ?y3) (fun hg3 => ?n3)
   case' y3 =>
    refine br (fun hg4 => ?y4) (fun hg4 => ?n4)
    case' y4 =>
     refine br (fun hg5 => ?y5) (fun hg5 => ?n5)
     case' y5 =>
      refine x_call T.en_60 (refFieldSame_any _ _ (by first | assumption | exact hx0.1)) ?_
      refine br (fun hg6 => ?y6) (fun hg6 => ?n6)
      case' y6 =>
       refine x_call T.en_61 (refSamePairs_any _ _ (by first | assumption | exact hx0.2.1 | exact hx0.2.2)) ?_
       refine br (fun hg7 => ?y7) (fun hg7 => ?n7)
       case' y7 =>
        refine x_call T.en_61 (refSamePairs_any _ _ (by first | assumption | exact hx0.2.1 | exact hx0.2.2)) ?_
      case' n6 =>
       refine brF ?_
     case' n5 =>
      refine brF ?_
      refine brF ?_
    case' n4 =>
     refine brF ?_
     refine brF ?_
     refine brF ?_
   case' n3 =>
    refine brF ?_
    refine brF ?_
    refine brF ?_
    refine brF ?_
  case' n2 =>
   refine brF ?_
   refine brF ?_
   refine brF ?_
   refine brF ?_
   refine brF ?_
 case' n1 =>
  refine brF ?_
  refine brF ?_
  refine brF ?_
  refine brF ?_
  refine brF ?_
  refine brF ?_
 all_goals (refine x_ret ?_; simp only [fitsL, fits, C.asD, and_true] <;> (refine scb ?_; clear hx0; cases x; cases y; simp_all))
end Go.Vm
end
section
namespace Go.Vm
open Go.RowKit Go.Proofs
set_option linter.unusedVariables false
set_option linter.unusedSimpArgs false
set_option maxRecDepth 10000

theorem parts_a {x : LensD} (h : x.kind = 1 ∨ x.kind = 5) : partsL x = (⟨x.kind, x.at_, x.name, noB, 0, noField, [], []⟩, true) := by unfold partsL; rw [if_pos h]
theorem parts_b {x : LensD} (h : x.kind = 2 ∨ x.kind = 3) : partsL x = (⟨x.kind, noRef, noB, noB, 0, x.field, [], []⟩, true) := by unfold partsL; rw [if_neg (by omega), if_pos h]
theorem parts_c {x : LensD} (h : x.kind = 4) : partsL x = (⟨x.kind, x.at_, noB, noB, 0, noField, [], []⟩, true) := by unfold partsL; rw [if_neg (by omega), if_neg (by omega), if_pos h]
theorem parts_d {x : LensD} (h : x.kind = 6 ∨ x.kind = 9) : partsL x = (⟨x.kind, x.at_, x.name, x.other, x.factor, noField, [], []⟩, true) := by unfold partsL; rw [if_neg (by omega), if_neg (by omega), if_neg (by omega), if_pos h]
theorem parts_e {x : LensD} (h : x.kind = 7 ∨ x.kind = 10) : partsL x = (⟨x.kind, x.at_, noB, x.other, 0, noField, [], []⟩, true) := by unfold partsL; rw [if_neg (by omega), if_neg (by omega), if_neg (by omega), if_neg (by omega), if_pos h]
theorem parts_f {x : LensD} (h : x.kind = 8) : partsL x = (⟨x.kind, x.at_, x.name, x.other, 0, noField, x.forth, x.back⟩, true) := by unfold partsL; rw [if_neg (by omega), if_neg (by omega), if_neg (by omega), if_neg (by omega), if_neg (by omega), if_pos h]
theorem parts_g {x : LensD} (h : ¬ x.kind = 1 ∧ ¬ x.kind = 2 ∧ ¬ x.kind = 3 ∧ ¬ x.kind = 4 ∧ ¬ x.kind = 5 ∧ ¬ x.kind = 6 ∧ ¬ x.kind = 7 ∧ ¬ x.kind = 8 ∧ ¬ x.kind = 9 ∧ ¬ x.kind = 10) : partsL x = (noLens, false) := by unfold partsL; rw [if_neg (by omega), if_neg (by omega), if_neg (by omega), if_neg (by omega), if_neg (by omega), if_neg (by omega)]

set_option maxHeartbeats 1000000 in
theorem lensOwn_any (x : LensD) (hx0 : okX x) : Contract Try.prog 17 [lD x] [.d (lD x)] := by
 refine T.fn [] Try.func17 ?_
 have hl1 := hx0.2.1
 have hl2 := hx0.2.2
 refine x_call T.en_64 (fieldOwn_any _ (by first | assumption | exact hx0.1)) ?_
 first | refine x_app ?_ (by first | exact strs_wide | exact pairs_wide | exact rs_wide | exact fD_wide | (simp [D.cells])) | refine x_appN ?_ (by first | exact strs_wide | exact pairs_wide | exact rs_wide | exact fD_wide | (simp [D.cells]))
 first | refine x_app ?_ (by first | exact strs_wide | exact pairs_wide | exact rs_wide | exact fD_wide | (simp [D.cells])) | refine x_appN ?_ (by first | exact strs_wide | exact pairs_wide | exact rs_wide | exact fD_wide | (simp [D.cells]))
 all_goals (refine x_ret ?_; simp only [fitsL, fits, C.asD, and_true] <;> (rfl))

set_option maxHeartbeats 1000000 in
theorem refLensHeavy_any (x : LensD) : Contract Try.prog 7 [lD x] [.d (.sc (.bool (heavyL x)))] := by
 refine T.fn [] Try.func7 ?_
 refine x_len ?_
 refine br (fun hg1 => ?y1) (fun hg1 => ?n1)
 case' y1 =>
  refine brT ?_
  refine brT ?_
  refine brT ?_
  refine brT ?_
  refine brT ?_
 case' n1 =>
  refine x_len ?_
  refine br (fun hg7 => ?y7) (fun hg7 => ?n7)
  case' y7 =>
   refine brT ?_
   refine brT ?_
   refine brT ?_
   refine brT ?_
  case' n7 =>
   refine x_len ?_
   refine br (fun hg12 => ?y12) (fun hg12 => ?n12)
   case' y12 =>
    refine brT ?_
    refine brT ?_
    refine brT ?_
   case' n12 =>
    refine x_len ?_
    refine br (fun hg16 => ?y16) (fun hg16 => ?n16)
    case' y16 =>
     refine brT ?_
     refine brT ?_
    case' n16 =>
     refine x_call T.en_42 (refFieldHeavy_any _) ?_
     refine br (fun hg19 => ?y19) (fun hg19 => ?n19)
     case' y19 =>
      refine brT ?_
     case' n19 =>
      refine x_call T.en_43 (heavyPairs_any _) ?_
      refine br (fun hg21 => ?y21) (fun hg21 => ?n21)
      case' n21 =>
       refine x_call T.en_43 (heavyPairs_any _) ?_
 all_goals (refine x_ret ?_; simp only [fitsL, fits, C.asD, and_true] <;> (refine scb ?_; symm; unfold heavyL; first | (simp_all; done) | (simp_all <;> omega)))

set_option maxHeartbeats 1000000 in
theorem parts_any (x : LensD) (hx0 : okX x) : Contract Try.prog 51 [lD x] [.d (lD (partsL x).1), .d (.sc (.bool ((partsL x).2)))] := by
 refine T.fn [] Try.func51 ?_
 refine br (fun hc1 => ?y1) (fun hc1 => ?n1)
 case' y1 =>
  have hkkind_1 := hc1
  refine brT ?_
  refine And.intro ⟨T.mixed, by decide +kernel⟩ ?_
 case' n1 =>
  have hnkind_1 := hc1
  refine br (fun hc3 => ?y3) (fun hc3 => ?n3)
  case' y3 =>
   have hkkind_5 := hc3
   refine And.intro ⟨T.mixed, by decide +kernel⟩ ?_
  case' n3 =>
   have hnkind_5 := hc3
   refine br (fun hc4 => ?y4) (fun hc4 => ?n4)
   case' y4 =>
    have hkkind_2 := hc4
    refine brT ?_
   case' n4 =>
    have hnkind_2 := hc4
    refine br (fun hc6 => ?y6) (fun hc6 => ?n6)
    case' y6 =>
     have hkkind_3 := hc6
    case' n6 =>
     have hnkind_3 := hc6
     refine br (fun hc7 => ?y7) (fun hc7 => ?n7)
     case' y7 =>
      have hkkind_4 := hc7
     case' n7 =>
      have hnkind_4 := hc7
      refine br (fun hc8 => ?y8) (fun hc8 => ?n8)
      case' y8 =>
       have hkkind_6 := hc8
       refine brT ?_
       refine And.intro ⟨T.mixed, by decide +kernel⟩ ?_
      case' n8 =>
       have hnkind_6 := hc8
       refine br (fun hc10 => ?y10) (fun hc10 => ?n10)
       case' y10 =>
        have hkkind_9 := hc10
        refine And.intro ⟨T.mixed, by decide +kernel⟩ ?_
       case' n10 =>
        have hnkind_9 := hc10
        refine br (fun hc11 => ?y11) (fun hc11 => ?n11)
        case' y11 =>
         have hkkind_7 := hc11
         refine brT ?_
         refine And.intro ⟨T.mixed, by decide +kernel⟩ ?_
        case' n11 =>
         have hnkind_7 := hc11
         refine br (fun hc13 => ?y13) (fun hc13 => ?n13)
         case' y13 =>
          have hkkind_10 := hc13
          refine And.intro ⟨T.mixed, by decide +kernel⟩ ?_
         case' n13 =>
          have hnkind_10 := hc13
          refine br (fun hc14 => ?y14) (fun hc14 => ?n14)
          case' y14 =>
           have hkkind_8 := hc14
           refine And.intro ⟨T.mixed, by decide +kernel⟩ ?_
           refine And.intro ⟨T.mixed, by decide +kernel⟩ ?_
          case' n14 =>
           have hnkind_8 := hc14
 all_goals (refine x_ret ?_; simp only [fitsL, fits, C.asD, and_true] <;> (first | (rw [parts_a (by omega)]; exact ⟨by kernel_rfl, by kernel_rfl⟩) | (rw [parts_b (by omega)]; exact ⟨by kernel_rfl, by kernel_rfl⟩) | (rw [parts_c (by omega)]; exact ⟨by kernel_rfl, by kernel_rfl⟩) | (rw [parts_d (by omega)]; exact ⟨by kernel_rfl, by kernel_rfl⟩) | (rw [parts_e (by omega)]; exact ⟨by kernel_rfl, by kernel_rfl⟩) | (rw [parts_f (by omega)]; exact ⟨by kernel_rfl, by kernel_rfl⟩) | (rw [parts_g (by omega)]; exact ⟨by kernel_rfl, by kernel_rfl⟩)))

set_option maxHeartbeats 1000000 in
theorem rightTables_any (x : LensD) (hx0 : okX x) : Contract Try.prog 57 [lD x] [.d (.sc (.bool (rightTb x)))] := by
 refine T.fn [] Try.func57 ?_
 refine x_call T.en_54 (name_any _) ?_
 refine br (fun hg1 => ?y1) (fun hg1 => ?n1)
 case' y1 =>
  refine brT ?_
  refine brT ?_
 case' n1 =>
  refine x_call T.en_107 (rightTable_any _ _ (by first | exact hx0.2.1 | exact hx0.2.2) (by first | exact hx0.2.1 | exact hx0.2.2)) ?_
  refine br (fun hg4 => ?y4) (fun hg4 => ?n4)
  case' y4 =>
   refine brT ?_
  case' n4 =>
   refine x_call T.en_107 (rightTable_any _ _ (by first | exact hx0.2.1 | exact hx0.2.2) (by first | exact hx0.2.1 | exact hx0.2.2)) ?_
   refine br (fun hc6 => ?y6) (fun hc6 => ?n6)
   case' n6 =>
    refine x_call T.en_108 (case_any _ _ (by first | assumption | exact hx0.2.1 | exact hx0.2.2)) ?_
    refine br (fun hg7 => ?y7) (fun hg7 => ?n7)
    case' y7 =>
     refine brT ?_
    case' n7 =>
     refine br (fun hc9 => ?y9) (fun hc9 => ?n9)
     case' n9 =>
      refine x_call T.en_108 (case_any _ _ (by first | assumption | exact hx0.2.1 | exact hx0.2.2)) ?_
      refine br (fun hg10 => ?y10) (fun hg10 => ?n10)
 all_goals (refine x_ret ?_; simp only [fitsL, fits, C.asD, and_true] <;> (refine scb ?_; unfold rightTb; first | (simp_all; done) | (rcases hcf : caseT x.forth x.name with ⟨a, b⟩; rcases hcb : caseT x.back x.other with ⟨c, d⟩; simp_all; done)))
end Go.Vm
end
section
namespace Go.Vm
open Go.RowKit Go.Proofs
set_option linter.unusedVariables false
set_option linter.unusedSimpArgs false
set_option maxRecDepth 10000

set_option maxHeartbeats 1000000 in
theorem lensRight_any (x : LensD) (hx0 : okX x) : Contract Try.prog 9 [lD x] [.d (.sc (.bool (rightL x)))] := by
 refine T.fn [] Try.func9 ?_
 refine x_call T.en_51 (parts_any _ hx0) ?_
 refine And.intro (fun hg1 => ?y1) (fun hg1 => ?n1)
 case' y1 =>
  refine brT ?_
 case' n1 =>
  refine x_call T.en_10 (lensSame_any _ _ (by first | assumption | exact hx0)) ?_
  refine And.intro (fun hc3 => ?y3) (fun hc3 => ?n3)
  case' n3 =>
   refine And.intro (fun hg4 => ?y4) (fun hg4 => ?n4)
   case' y4 =>
    have hkkind_2 := hg4
    refine brT ?_
    refine x_call T.en_52 (fieldRight_any _ (by first | assumption | exact hx0.1)) ?_
   case' n4 =>
    have hnkind_2 := hg4
    refine And.intro (fun hc6 => ?y6) (fun hc6 => ?n6)
    case' y6 =>
     have hkkind_3 := hc6
     refine x_call T.en_52 (fieldRight_any _ (by first | assumption | exact hx0.1)) ?_
    case' n6 =>
     have hnkind_3 := hc6
     refine x_call T.en_53 (place_any _) ?_
     refine And.intro (fun hc7 => ?y7) (fun hc7 => ?n7)
     case' n7 =>
      refine And.intro (fun hc8 => ?y8) (fun hc8 => ?n8)
      case' y8 =>
       have hkkind_1 := hc8
       refine x_call T.en_54 (name_any _) ?_
      case' n8 =>
       have hnkind_1 := hc8
       refine And.intro (fun hc9 => ?y9) (fun hc9 => ?n9)
       case' y9 =>
        have hkkind_4 := hc9
       case' n9 =>
        have hnkind_4 := hc9
        refine And.intro (fun hc10 => ?y10) (fun hc10 => ?n10)
        case' y10 =>
         have hkkind_5 := hc10
         refine And.intro (fun hg11 => ?y11) (fun hg11 => ?n11)
         case' y11 =>
          refine x_call T.en_54 (name_any _) ?_
        case' n10 =>
         have hnkind_5 := hc10
         refine And.intro (fun hc12 => ?y12) (fun hc12 => ?n12)
         case' y12 =>
          have hkkind_6 := hc12
          refine brT ?_
          refine x_call T.en_54 (name_any _) ?_
          refine And.intro (fun hg14 => ?y14) (fun hg14 => ?n14)
          case' y14 =>
           refine x_call T.en_54 (name_any _) ?_
           refine And.intro (fun hg15 => ?y15) (fun hg15 => ?n15)
           case' y15 =>
            refine And.intro (fun hg16 => ?y16) (fun hg16 => ?n16)
            case' y16 =>
             refine x_call T.en_55 (factor_any _) ?_
           case' n15 =>
            refine brF ?_
          case' n14 =>
           refine brF ?_
           refine brF ?_
         case' n12 =>
          have hnkind_6 := hc12
          refine And.intro (fun hc20 => ?y20) (fun hc20 => ?n20)
          case' y20 =>
           have hkkind_9 := hc20
           refine x_call T.en_54 (name_any _) ?_
           refine And.intro (fun hg21 => ?y21) (fun hg21 => ?n21)
           case' y21 =>
            refine x_call T.en_54 (name_any _) ?_
            refine And.intro (fun hg22 => ?y22) (fun hg22 => ?n22)
            case' y22 =>
             refine And.intro (fun hg23 => ?y23) (fun hg23 => ?n23)
             case' y23 =>
              refine x_call T.en_55 (factor_any _) ?_
            case' n22 =>
             refine brF ?_
           case' n21 =>
            refine brF ?_
            refine brF ?_
          case' n20 =>
           have hnkind_9 := hc20
           refine And.intro (fun hc27 => ?y27) (fun hc27 => ?n27)
           case' y27 =>
            have hkkind_7 := hc27
            refine brT ?_
            refine x_call T.en_56 (text_any _) ?_
           case' n27 =>
            have hnkind_7 := hc27
            refine And.intro (fun hc29 => ?y29) (fun hc29 => ?n29)
            case' y29 =>
             have hkkind_10 := hc29
             refine x_call T.en_56 (text_any _) ?_
            case' n29 =>
             have hnkind_10 := hc29
             refine x_call T.en_57 (rightTables_any _ hx0) ?_
 all_goals (refine x_ret ?_; simp only [fitsL, fits, C.asD, and_true] <;> (refine scb ?_; rw [← rightLp_eq, rightLp_q]; generalize (partsL x).2 = b2 at *; generalize decide (x = (partsL x).1) = b1 at *; unfold rightLq; first | (simp_all; done) | (simp_all [emp]; done) | grind))

set_option maxHeartbeats 1000000 in
theorem tables_any (x : LensD) : Contract Try.prog 44 [lD x] [.d (.sc (.bool (!(decide (x.forth.length = 0) && decide (x.back.length = 0)))))] := by
 refine T.fn [] Try.func44 ?_
 refine x_len ?_
 refine br (fun hg1 => ?y1) (fun hg1 => ?n1)
 case' n1 =>
  refine x_len ?_
 all_goals (refine x_ret ?_; simp only [fitsL, fits, C.asD, and_true] <;> (refine scb ?_; first | (symm; simp only [decide_eq_true_eq, decide_eq_false_iff_not, Bool.not_eq_true', Bool.not_eq_false', Bool.and_eq_true, Bool.or_eq_true, Bool.or_eq_false_iff, Bool.and_eq_false_iff, beq_iff_eq, beq_eq_false_iff_ne, ne_eq, Bool.not_true, Bool.not_false, Bool.false_eq_true, Bool.true_eq_false] at * <;> omega) | (rw [Bool.eq_iff_iff]; simp only [decide_eq_true_eq, decide_eq_false_iff_not, Bool.not_eq_true', Bool.not_eq_false', Bool.and_eq_true, Bool.or_eq_true, Bool.or_eq_false_iff, Bool.and_eq_false_iff, beq_iff_eq, beq_eq_false_iff_ne, ne_eq, Bool.not_true, Bool.not_false, Bool.false_eq_true, Bool.true_eq_false] at * <;> omega)))

set_option maxHeartbeats 1000000 in
theorem none_any (x : LensD) (hx0 : okX x) : Contract Try.prog 47 [lD x] [.d (.sc (.bool (decide (x.field = noField))))] := by
 refine T.fn [] Try.func47 ?_
 refine x_call T.en_60 (refFieldSame_any x.field noField hx0.1) ?_
 all_goals (refine x_ret ?_; simp only [fitsL, fits, C.asD, and_true] <;> (rfl))

set_option maxHeartbeats 1000000 in
theorem refLensRight_any (x : LensD) (hx0 : okX x) : Contract Try.prog 8 [lD x] [.d (.sc (.bool (rightL x)))] := by
 refine T.fn [] Try.func8 ?_
 refine br (fun hg1 => ?y1) (fun hg1 => ?n1)
 case' y1 =>
  have hkkind_2 := hg1
  refine brT ?_
  first | refine xeq_23e _ _ ?_ | refine xeq_23e _ noRef ?_ | refine xeq_23e noRef _ ?_
  refine br (fun hg3 => ?y3) (fun hg3 => ?n3)
  case' y3 =>
   refine br (fun hg4 => ?y4) (fun hg4 => ?n4)
   case' y4 =>
    refine br (fun hg5 => ?y5) (fun hg5 => ?n5)
    case' y5 =>
     refine br (fun hg6 => ?y6) (fun hg6 => ?n6)
     case' y6 =>
      refine x_call T.en_44 (tables_any _) ?_
      refine br (fun hg7 => ?y7) (fun hg7 => ?n7)
      case' y7 =>
       refine x_call T.en_45 (refFieldRight_any _ (by first | assumption | exact hx0.1)) ?_
     case' n6 =>
      refine brF ?_
    case' n5 =>
     refine brF ?_
     refine brF ?_
   case' n4 =>
    refine brF ?_
    refine brF ?_
    refine brF ?_
  case' n3 =>
   refine brF ?_
   refine brF ?_
   refine brF ?_
   refine brF ?_
 case' n1 =>
  have hnkind_2 := hg1
  refine br (fun hc18 => ?y18) (fun hc18 => ?n18)
  case' y18 =>
   have hkkind_3 := hc18
   first | refine xeq_23e _ _ ?_ | refine xeq_23e _ noRef ?_ | refine xeq_23e noRef _ ?_
   refine br (fun hg19 => ?y19) (fun hg19 => ?n19)
   case' y19 =>
    refine br (fun hg20 => ?y20) (fun hg20 => ?n20)
    case' y20 =>
     refine br (fun hg21 => ?y21) (fun hg21 => ?n21)
     case' y21 =>
      refine br (fun hg22 => ?y22) (fun hg22 => ?n22)
      case' y22 =>
       refine x_call T.en_44 (tables_any _) ?_
       refine br (fun hg23 => ?y23) (fun hg23 => ?n23)
       case' y23 =>
        refine x_call T.en_45 (refFieldRight_any _ (by first | assumption | exact hx0.1)) ?_
      case' n22 =>
       refine brF ?_
     case' n21 =>
      refine brF ?_
      refine brF ?_
    case' n20 =>
     refine brF ?_
     refine brF ?_
     refine brF ?_
   case' n19 =>
    refine brF ?_
    refine brF ?_
    refine brF ?_
    refine brF ?_
  case' n18 =>
   have hnkind_3 := hc18
   refine x_call T.en_46 (refPlace_any _) ?_
   refine br (fun hg34 => ?y34) (fun hg34 => ?n34)
   case' y34 =>
    refine brT ?_
   case' n34 =>
    refine x_call T.en_47 (none_any _ hx0) ?_
    refine br (fun hc36 => ?y36) (fun hc36 => ?n36)
    case' n36 =>
     refine br (fun hc37 => ?y37) (fun hc37 => ?n37)
     case' y37 =>
      have hkkind_8 := hc37
      refine x_call T.en_48 (refCase_any _ _ (by first | assumption | exact hx0.2.1 | exact hx0.2.2)) ?_
      refine x_call T.en_48 (refCase_any _ _ (by first | assumption | exact hx0.2.1 | exact hx0.2.2)) ?_
      refine br (fun hg38 => ?y38) (fun hg38 => ?n38)
      case' y38 =>
       refine x_call T.en_49 (refTable_any _ _ (by first | exact hx0.2.1 | exact hx0.2.2) (by first | exact hx0.2.1 | exact hx0.2.2)) ?_
       refine br (fun hg39 => ?y39) (fun hg39 => ?n39)
       case' y39 =>
        refine x_call T.en_49 (refTable_any _ _ (by first | exact hx0.2.1 | exact hx0.2.2) (by first | exact hx0.2.1 | exact hx0.2.2)) ?_
        refine br (fun hg40 => ?y40) (fun hg40 => ?n40)
        case' y40 =>
         refine br (fun hg41 => ?y41) (fun hg41 => ?n41)
         case' y41 =>
          refine br (fun hg42 => ?y42) (fun hg42 => ?n42)
          case' y42 =>
           refine br (fun hg43 => ?y43) (fun hg43 => ?n43)
          case' n42 =>
           refine brF ?_
         case' n41 =>
          refine brF ?_
          refine brF ?_
        case' n40 =>
         refine brF ?_
         refine brF ?_
         refine brF ?_
       case' n39 =>
        refine brF ?_
        refine brF ?_
        refine brF ?_
        refine brF ?_
      case' n38 =>
       refine brF ?_
       refine brF ?_
       refine brF ?_
       refine brF ?_
       refine brF ?_
     case' n37 =>
      have hnkind_8 := hc37
      refine x_call T.en_44 (tables_any _) ?_
      refine br (fun hc59 => ?y59) (fun hc59 => ?n59)
      case' n59 =>
       refine br (fun hg60 => ?y60) (fun hg60 => ?n60)
       case' y60 =>
        have hkkind_6 := hg60
        refine brT ?_
        refine x_call T.en_50 (refName_any _) ?_
        refine br (fun hg62 => ?y62) (fun hg62 => ?n62)
        case' y62 =>
         refine x_call T.en_50 (refName_any _) ?_
         refine br (fun hg63 => ?y63) (fun hg63 => ?n63)
         case' y63 =>
          refine br (fun hg64 => ?y64) (fun hg64 => ?n64)
          case' y64 =>
           refine br (fun hg65 => ?y65) (fun hg65 => ?n65)
          case' n64 =>
           refine brF ?_
         case' n63 =>
          refine brF ?_
          refine brF ?_
        case' n62 =>
         refine brF ?_
         refine brF ?_
         refine brF ?_
       case' n60 =>
        have hnkind_6 := hg60
        refine br (fun hc72 => ?y72) (fun hc72 => ?n72)
        case' y72 =>
         have hkkind_9 := hc72
         refine x_call T.en_50 (refName_any _) ?_
         refine br (fun hg73 => ?y73) (fun hg73 => ?n73)
         case' y73 =>
          refine x_call T.en_50 (refName_any _) ?_
          refine br (fun hg74 => ?y74) (fun hg74 => ?n74)
          case' y74 =>
           refine br (fun hg75 => ?y75) (fun hg75 => ?n75)
           case' y75 =>
            refine br (fun hg76 => ?y76) (fun hg76 => ?n76)
           case' n75 =>
            refine brF ?_
          case' n74 =>
           refine brF ?_
           refine brF ?_
         case' n73 =>
          refine brF ?_
          refine brF ?_
          refine brF ?_
        case' n72 =>
         have hnkind_9 := hc72
         refine br (fun hc83 => ?y83) (fun hc83 => ?n83)
         case' n83 =>
          refine br (fun hg84 => ?y84) (fun hg84 => ?n84)
          case' y84 =>
           have hkkind_7 := hg84
           refine brT ?_
           refine br (fun hg86 => ?y86) (fun hg86 => ?n86)
           case' y86 =>
            refine x_len ?_
          case' n84 =>
           have hnkind_7 := hg84
           refine br (fun hc87 => ?y87) (fun hc87 => ?n87)
           case' y87 =>
            have hkkind_10 := hc87
            refine br (fun hg88 => ?y88) (fun hg88 => ?n88)
            case' y88 =>
             refine x_len ?_
           case' n87 =>
            have hnkind_10 := hc87
            refine br (fun hc89 => ?y89) (fun hc89 => ?n89)
            case' n89 =>
             refine br (fun hc90 => ?y90) (fun hc90 => ?n90)
             case' y90 =>
              have hkkind_1 := hc90
              refine x_call T.en_50 (refName_any _) ?_
             case' n90 =>
              have hnkind_1 := hc90
              refine br (fun hc91 => ?y91) (fun hc91 => ?n91)
              case' y91 =>
               have hkkind_4 := hc91
               refine br (fun hg92 => ?y92) (fun hg92 => ?n92)
              case' n91 =>
               have hnkind_4 := hc91
               refine br (fun hg93 => ?y93) (fun hg93 => ?n93)
               case' y93 =>
                have hkkind_5 := hg93
                refine br (fun hg94 => ?y94) (fun hg94 => ?n94)
                case' y94 =>
                 refine x_call T.en_50 (refName_any _) ?_
               case' n93 =>
                have hnkind_5 := hg93
                refine brF ?_
 all_goals (refine x_ret ?_; simp only [fitsL, fits, C.asD, and_true] <;> (refine scb ?_; unfold rightL; first | (simp_all; done) | (simp_all [emp]; done) | (rcases hcf : caseT x.forth x.name with ⟨a, b⟩; rcases hcb : caseT x.back x.other with ⟨c, d⟩; simp_all; done) | grind))
end Go.Vm
end
section
namespace Go.Vm
open Go.RowKit Go.Proofs
set_option linter.unusedVariables false
set_option linter.unusedSimpArgs false
set_option maxRecDepth 10000

theorem goes_2 {x : LensD} (h : x.kind = 2) : goesL x = [] := by simp [goesL, h]
theorem goes_3 {x : LensD} (h : x.kind = 3) : goesL x = [x.field.at_] := by simp [goesL, h]
theorem goes_9 {x : LensD} (h : x.kind = 9) : goesL x = [named x.at_ x.name, named x.at_ x.other] := by simp [goesL, h]
theorem goes_o {x : LensD} (h2 : ¬ x.kind = 2) (h3 : ¬ x.kind = 3) (h9 : ¬ x.kind = 9) : goesL x = [x.at_] := by simp [goesL, h2, h3, h9]
theorem comes_2 {x : LensD} (h : x.kind = 2) : comesL x = [x.field.at_] := by simp [comesL, h]
theorem comes_3 {x : LensD} (h : x.kind = 3) : comesL x = [] := by simp [comesL, h]
theorem comes_6 {x : LensD} (h : x.kind = 6) : comesL x = [named x.at_ x.name, named x.at_ x.other] := by simp [comesL, h]
theorem comes_1 {x : LensD} (h : x.kind = 1) : comesL x = [named x.at_ x.name] := by simp [comesL, h]
theorem comes_4 {x : LensD} (h : x.kind = 4) : comesL x = [⟨x.at_.scope, noB, x.at_.name⟩] := by simp [comesL, h]
theorem comes_5 {x : LensD} (h : x.kind = 5) : comesL x = [⟨x.at_.scope, x.name, x.at_.name⟩] := by simp [comesL, h]
theorem comes_o {x : LensD} (h1 : ¬ x.kind = 1) (h2 : ¬ x.kind = 2) (h3 : ¬ x.kind = 3) (h4 : ¬ x.kind = 4) (h5 : ¬ x.kind = 5) (h6 : ¬ x.kind = 6) : comesL x = [x.at_] := by simp [comesL, h1, h2, h3, h4, h5, h6]

set_option maxHeartbeats 1000000 in
theorem named_any (r : RefD) (s : ByteArray) : Contract Try.prog 63 [rD r, .sc (.string s)] [.d (rD (named r s))] := by
 refine T.fn [] Try.func63 ?_
 all_goals (refine x_ret ?_; simp only [fitsL, fits, C.asD, and_true] <;> (rfl))

set_option maxHeartbeats 1000000 in
theorem beside_any (r : RefD) (s : ByteArray) : Contract Try.prog 62 [rD r, .sc (.string s)] [.d (rD (named r s))] := by
 refine T.fn [] Try.func62 ?_
 all_goals (refine x_ret ?_; simp only [fitsL, fits, C.asD, and_true] <;> (rfl))

set_option maxHeartbeats 1000000 in
theorem lensGoes_any (x : LensD) (hx0 : okX x) : Contract Try.prog 12 [lD x] [.d (.row ((if rightL x = true then goesL x else []).map rD))] := by
 refine T.fn [] Try.func12 ?_
 refine x_call T.en_9 (lensRight_any _ hx0) ?_
 refine br (fun hc1 => ?y1) (fun hc1 => ?n1)
 case' y1 =>
  have hr0 : ¬ rightL x = true := by simpa using hc1
 case' n1 =>
  have hr1 : rightL x = true := by simpa using hc1
  refine br (fun hc2 => ?y2) (fun hc2 => ?n2)
  case' y2 =>
   have hkkind_2 := hc2
  case' n2 =>
   have hnkind_2 := hc2
   refine br (fun hc3 => ?y3) (fun hc3 => ?n3)
   case' y3 =>
    have hkkind_3 := hc3
   case' n3 =>
    have hnkind_3 := hc3
    refine br (fun hc4 => ?y4) (fun hc4 => ?n4)
    case' y4 =>
     have hkkind_9 := hc4
     refine And.intro ⟨T.mixed, by decide +kernel⟩ ?_
     refine x_call T.en_62 (beside_any _ _) ?_
     refine x_call T.en_62 (beside_any _ _) ?_
    case' n4 =>
     have hnkind_9 := hc4
 all_goals (refine x_ret ?_; simp only [fitsL, fits, C.asD, and_true] <;> (first | (rw [if_neg hr0]; rfl) | (rw [if_pos hr1, goes_2 hkkind_2]; rfl) | (rw [if_pos hr1, goes_3 hkkind_3]; rfl) | (rw [if_pos hr1, goes_9 hkkind_9]; rfl) | (rw [if_pos hr1, goes_o hnkind_2 hnkind_3 hnkind_9]; rfl)))

set_option maxHeartbeats 1000000 in
theorem lensComes_any (x : LensD) (hx0 : okX x) : Contract Try.prog 13 [lD x] [.d (.row ((if rightL x = true then comesL x else []).map rD))] := by
 refine T.fn [] Try.func13 ?_
 refine x_call T.en_9 (lensRight_any _ hx0) ?_
 refine br (fun hc1 => ?y1) (fun hc1 => ?n1)
 case' y1 =>
  have hr0 : ¬ rightL x = true := by simpa using hc1
 case' n1 =>
  have hr1 : rightL x = true := by simpa using hc1
  refine br (fun hc2 => ?y2) (fun hc2 => ?n2)
  case' y2 =>
   have hkkind_1 := hc2
   refine x_call T.en_62 (beside_any _ _) ?_
  case' n2 =>
   have hnkind_1 := hc2
   refine br (fun hc3 => ?y3) (fun hc3 => ?n3)
   case' y3 =>
    have hkkind_2 := hc3
   case' n3 =>
    have hnkind_2 := hc3
    refine br (fun hc4 => ?y4) (fun hc4 => ?n4)
    case' y4 =>
     have hkkind_3 := hc4
    case' n4 =>
     have hnkind_3 := hc4
     refine br (fun hc5 => ?y5) (fun hc5 => ?n5)
     case' y5 =>
      have hkkind_4 := hc5
     case' n5 =>
      have hnkind_4 := hc5
      refine br (fun hc6 => ?y6) (fun hc6 => ?n6)
      case' y6 =>
       have hkkind_5 := hc6
      case' n6 =>
       have hnkind_5 := hc6
       refine br (fun hc7 => ?y7) (fun hc7 => ?n7)
       case' y7 =>
        have hkkind_6 := hc7
        refine And.intro ⟨T.mixed, by decide +kernel⟩ ?_
        refine x_call T.en_62 (beside_any _ _) ?_
        refine x_call T.en_62 (beside_any _ _) ?_
       case' n7 =>
        have hnkind_6 := hc7
 all_goals (refine x_ret ?_; simp only [fitsL, fits, C.asD, and_true] <;> (first | (rw [if_neg hr0]; rfl) | (rw [if_pos hr1, comes_2 hkkind_2]; rfl) | (rw [if_pos hr1, comes_3 hkkind_3]; rfl) | (rw [if_pos hr1, comes_6 hkkind_6]; rfl) | (rw [if_pos hr1, comes_1 hkkind_1]; rfl) | (rw [if_pos hr1, comes_4 hkkind_4]; rfl) | (rw [if_pos hr1, comes_5 hkkind_5]; rfl) | (rw [if_pos hr1, comes_o hnkind_1 hnkind_2 hnkind_3 hnkind_4 hnkind_5 hnkind_6]; rfl)))

set_option maxHeartbeats 1000000 in
theorem refGoes_any (x : LensD) : Contract Try.prog 15 [lD x] [.d (.row ((goesL x).map rD))] := by
 refine T.fn [] Try.func15 ?_
 refine br (fun hc1 => ?y1) (fun hc1 => ?n1)
 case' y1 =>
  have hkkind_2 := hc1
 case' n1 =>
  have hnkind_2 := hc1
  refine br (fun hc2 => ?y2) (fun hc2 => ?n2)
  case' y2 =>
   have hkkind_3 := hc2
  case' n2 =>
   have hnkind_3 := hc2
   refine br (fun hc3 => ?y3) (fun hc3 => ?n3)
   case' y3 =>
    have hkkind_9 := hc3
    refine And.intro ⟨T.mixed, by decide +kernel⟩ ?_
    refine x_call T.en_63 (named_any _ _) ?_
    refine x_call T.en_63 (named_any _ _) ?_
   case' n3 =>
    have hnkind_9 := hc3
 all_goals (refine x_ret ?_; simp only [fitsL, fits, C.asD, and_true] <;> (first | (rw [goes_2 hkkind_2]; rfl) | (rw [goes_3 hkkind_3]; rfl) | (rw [goes_9 hkkind_9]; rfl) | (rw [goes_o hnkind_2 hnkind_3 hnkind_9]; rfl)))

set_option maxHeartbeats 1000000 in
theorem refComes_any (x : LensD) : Contract Try.prog 16 [lD x] [.d (.row ((comesL x).map rD))] := by
 refine T.fn [] Try.func16 ?_
 refine br (fun hc1 => ?y1) (fun hc1 => ?n1)
 case' y1 =>
  have hkkind_2 := hc1
 case' n1 =>
  have hnkind_2 := hc1
  refine br (fun hc2 => ?y2) (fun hc2 => ?n2)
  case' y2 =>
   have hkkind_3 := hc2
  case' n2 =>
   have hnkind_3 := hc2
   refine br (fun hc3 => ?y3) (fun hc3 => ?n3)
   case' y3 =>
    have hkkind_6 := hc3
    refine And.intro ⟨T.mixed, by decide +kernel⟩ ?_
    refine x_call T.en_63 (named_any _ _) ?_
    refine x_call T.en_63 (named_any _ _) ?_
   case' n3 =>
    have hnkind_6 := hc3
    refine br (fun hc4 => ?y4) (fun hc4 => ?n4)
    case' y4 =>
     have hkkind_1 := hc4
     refine x_call T.en_63 (named_any _ _) ?_
    case' n4 =>
     have hnkind_1 := hc4
     refine br (fun hc5 => ?y5) (fun hc5 => ?n5)
     case' y5 =>
      have hkkind_4 := hc5
      refine br (fun hc6 => ?y6) (fun hc6 => ?n6)
      case' y6 =>
       exfalso; omega
      case' n6 =>
       have hnkind_5 := hc6
     case' n5 =>
      have hnkind_4 := hc5
      refine br (fun hc7 => ?y7) (fun hc7 => ?n7)
      case' y7 =>
       have hkkind_5 := hc7
      case' n7 =>
       have hnkind_5 := hc7
 all_goals (refine x_ret ?_; simp only [fitsL, fits, C.asD, and_true] <;> (first | (rw [comes_2 hkkind_2]; rfl) | (rw [comes_3 hkkind_3]; rfl) | (rw [comes_6 hkkind_6]; rfl) | (rw [comes_1 hkkind_1]; rfl) | (rw [comes_4 hkkind_4]; rfl) | (rw [comes_5 hkkind_5]; rfl) | (rw [comes_o hnkind_1 hnkind_2 hnkind_3 hnkind_4 hnkind_5 hnkind_6]; rfl)))
end Go.Vm
end
section
namespace Go.Vm
open Go.RowKit Go.Proofs
set_option linter.unusedVariables false
set_option linter.unusedSimpArgs false
set_option maxRecDepth 10000

theorem lensGoes_at (x : LensD) (hx0 : okX x) (hx : rightL x = true) : Contract Try.prog 12 [lD x] [.d (.row ((goesL x).map rD))] := by have h := lensGoes_any x hx0; rwa [if_pos hx] at h
theorem lensComes_at (x : LensD) (hx0 : okX x) (hx : rightL x = true) : Contract Try.prog 13 [lD x] [.d (.row ((comesL x).map rD))] := by have h := lensComes_any x hx0; rwa [if_pos hx] at h
theorem go9_0 {x : LensD} (h : x.kind = 9) : ((goesL x).map rD)[(0 : Int).toNat]? = some (rD (named x.at_ x.name)) := by rw [goes_9 h]; rfl
theorem go9_1 {x : LensD} (h : x.kind = 9) : ((goesL x).map rD)[(1 : Int).toNat]? = some (rD (named x.at_ x.other)) := by rw [goes_9 h]; rfl
theorem co6_0 {x : LensD} (h : x.kind = 6) : ((comesL x).map rD)[(0 : Int).toNat]? = some (rD (named x.at_ x.name)) := by rw [comes_6 h]; rfl
theorem co6_1 {x : LensD} (h : x.kind = 6) : ((comesL x).map rD)[(1 : Int).toNat]? = some (rD (named x.at_ x.other)) := by rw [comes_6 h]; rfl
theorem co_at {x : LensD} (h : x.kind = 7 ∨ x.kind = 8 ∨ x.kind = 9 ∨ x.kind = 10) : ((comesL x).map rD)[(0 : Int).toNat]? = some (rD x.at_) := by rw [comes_o (by omega) (by omega) (by omega) (by omega) (by omega) (by omega)]; rfl
theorem comes_ne {x : LensD} (h : ¬ x.kind = 3) : comesL x ≠ [] := by
  unfold comesL; simp only [h, if_false]; (repeat' split) <;> simp
theorem co_0 {x : LensD} (h : ¬ x.kind = 3) : ((comesL x).map rD)[(0 : Int).toNat]? = some (rD (comeL x)) := by
  have := comes_ne h
  unfold comeL
  cases hc : comesL x with
  | nil => exact absurd hc this
  | cons c cs => rfl
theorem mul_bound {a b : Int} (h : 0 ≤ a ∧ a ≤ 1048576) (h2 : 0 ≤ b ∧ b ≤ 1000) : -9223372036854775808 ≤ a * b ∧ a * b ≤ 9223372036854775807 := by
  have h3 := Int.mul_nonneg h.1 h2.1
  have h4 : a * b ≤ 1048576 * 1000 := Int.mul_le_mul h.2 h2.2 h2.1 (by omega)
  omega
theorem factor_ok {x : LensD} (hx : rightL x = true) (h : x.kind = 6 ∨ x.kind = 9) : 0 ≤ x.factor ∧ x.factor ≤ 1000 := by
  unfold rightL at hx
  rw [if_neg (by omega), if_neg (show ¬ x.kind = 8 by omega), if_pos h] at hx
  simp only [Bool.and_eq_true, decide_eq_true_eq] at hx
  omega
theorem find_in {l : List FieldD} {r : RefD} (h : (findS l r).2 = 0) : ¬ indexS l r < 0 := by
  intro h'; rw [find_neg h'] at h; simp at h
theorem find_worth {l : List FieldD} {r : RefD} (hl : rightS l = true) (h : (findS l r).2 = 0) : 0 ≤ (findS l r).1.worth ∧ (findS l r).1.worth ≤ 1048576 := by
  have h' := find_in h
  rw [find_pos h']
  exact rightF_worth (rightS_mem hl (fieldAt_spec h').1)
theorem find_ok {l : List FieldD} {r : RefD} (ho : okL l) : (findS l r).1.cases.length ≤ 1000000 := by
  by_cases h : indexS l r < 0
  · rw [find_neg h]; simp [noField]
  · rw [find_pos h]; exact ho.2 _ (fieldAt_spec h).1
theorem arr_2 {l : List FieldD} {x : LensD} (h : x.kind = 2) : arrS l x = ([x.field], true) := by unfold arrS; rw [if_pos h]
theorem arr_3 {l : List FieldD} {x : LensD} (h : x.kind = 3) : arrS l x = ([], decide ((findS l x.field.at_).2 = 0) && decide ((findS l x.field.at_).1 = x.field)) := by unfold arrS; rw [if_neg (by omega), if_pos h]
theorem arr_9 {l : List FieldD} {x : LensD} (h : x.kind = 9) : arrS l x = mergedS l x := by unfold arrS; rw [if_neg (by omega), if_neg (by omega), if_pos h]
theorem arr_no {l : List FieldD} {x : LensD} (h2 : ¬ x.kind = 2) (h3 : ¬ x.kind = 3) (h9 : ¬ x.kind = 9) (hf : ¬ (findS l x.at_).2 = 0) : arrS l x = ([], false) := by unfold arrS; rw [if_neg h2, if_neg h3, if_neg h9, if_pos hf]
theorem arr_6 {l : List FieldD} {x : LensD} (h : x.kind = 6) (hf : (findS l x.at_).2 = 0) : arrS l x = ([⟨named x.at_ x.name, 1, noB, [], (findS l x.at_).1.worth⟩, ⟨named x.at_ x.other, 1, noB, [], (findS l x.at_).1.worth * x.factor⟩], decide ((findS l x.at_).1.kind = 1)) := by
  unfold arrS; rw [if_neg (by omega), if_neg (by omega), if_neg (by omega), if_neg (by omega), if_pos h]
theorem arr_7 {l : List FieldD} {x : LensD} (h : x.kind = 7) (hf : (findS l x.at_).2 = 0) : arrS l x = ([⟨x.at_, 4, noB, [], 0⟩], decide ((findS l x.at_).1.kind = 2) && decide ((findS l x.at_).1.deft = x.other)) := by
  unfold arrS; rw [if_neg (by omega), if_neg (by omega), if_neg (by omega), if_neg (by omega), if_neg (by omega), if_pos h]
theorem arr_10 {l : List FieldD} {x : LensD} (h : x.kind = 10) (hf : (findS l x.at_).2 = 0) : arrS l x = ([⟨x.at_, 2, x.other, [], 0⟩], decide ((findS l x.at_).1.kind = 4)) := by
  unfold arrS; rw [if_neg (by omega), if_neg (by omega), if_neg (by omega), if_neg (by omega), if_neg (by omega), if_neg (by omega), if_pos h]
theorem arr_8 {l : List FieldD} {x : LensD} (h : x.kind = 8) (hf : (findS l x.at_).2 = 0) : arrS l x = ([⟨x.at_, 3, x.other, froms x.back, 0⟩], decide ((findS l x.at_).1 = ⟨x.at_, 3, x.name, froms x.forth, 0⟩)) := by
  unfold arrS; rw [if_neg (by omega), if_neg (by omega), if_neg (by omega), if_neg (by omega), if_neg (by omega), if_neg (by omega), if_neg (by omega), if_pos h]
theorem arr_o {l : List FieldD} {x : LensD} (h : ¬ x.kind = 2 ∧ ¬ x.kind = 3 ∧ ¬ x.kind = 9 ∧ ¬ x.kind = 6 ∧ ¬ x.kind = 7 ∧ ¬ x.kind = 10 ∧ ¬ x.kind = 8) (hf : (findS l x.at_).2 = 0) : arrS l x = ([⟨comeL x, (findS l x.at_).1.kind, (findS l x.at_).1.deft, (findS l x.at_).1.cases, (findS l x.at_).1.worth⟩], true) := by
  unfold arrS; rw [if_neg (by omega), if_neg (by omega), if_neg (by omega), if_neg (by omega), if_neg (by omega), if_neg (by omega), if_neg (by omega), if_neg (by omega)]
theorem pair_and {A : Prop} {a b : Bool} (h1 : A) (h : a = b) : A ∧ D.sc (.bool a) = D.sc (.bool b) := ⟨h1, scb h⟩

set_option maxHeartbeats 1000000 in
theorem merged_any (l : List FieldD) (x : LensD) (ho : okL l) (hx0 : okX x) (hl : rightS l = true) (hx : rightL x = true) (hk : x.kind = 9) : Contract Try.prog 125 [.row (l.map fD), lD x] [.d (.row ((mergedS l x).1.map fD)), .d (.sc (.bool ((mergedS l x).2)))] := by
 refine T.fn [] Try.func125 ?_
 refine x_call T.en_12 (lensGoes_at _ hx0 hx) ?_
 first | refine x_ix (by first | exact go9_0 (by omega) | exact go9_1 (by omega) | exact co6_0 (by omega) | exact co6_1 (by omega) | exact co_0 (by omega)) ?_ | refine x_ixI (by first | exact go9_0 (by omega) | exact go9_1 (by omega) | exact co6_0 (by omega) | exact co6_1 (by omega) | exact co_0 (by omega)) ?_
 refine x_call T.en_41 (schemaFind_any _ _ ho) ?_
 refine br (fun hg1 => ?y1) (fun hg1 => ?n1)
 case' y1 =>
  refine brT ?_
 case' n1 =>
  have hu0 : (findS l (named x.at_ x.name)).2 = 0 := by simpa using hg1
  refine br (fun hc3 => ?y3) (fun hc3 => ?n3)
  case' n3 =>
   first | refine x_ix (by first | exact go9_0 (by omega) | exact go9_1 (by omega) | exact co6_0 (by omega) | exact co6_1 (by omega) | exact co_0 (by omega)) ?_ | refine x_ixI (by first | exact go9_0 (by omega) | exact go9_1 (by omega) | exact co6_0 (by omega) | exact co6_1 (by omega) | exact co_0 (by omega)) ?_
   refine x_call T.en_41 (schemaFind_any _ _ ho) ?_
   refine br (fun hg4 => ?y4) (fun hg4 => ?n4)
   case' y4 =>
    refine brT ?_
    refine brT ?_
   case' n4 =>
    refine br (fun hg7 => ?y7) (fun hg7 => ?n7)
    case' y7 =>
     refine brT ?_
    case' n7 =>
     first | refine x_bin (pr_mul (wrap64 _ (mul_bound (find_worth hl hu0) (factor_ok hx (.inr hk))))) rfl ?_ | refine x_mul ?_ | refine x_bin rfl rfl ?_
     refine br (fun hc9 => ?y9) (fun hc9 => ?n9)
 all_goals (refine x_ret ?_; simp only [fitsL, fits, C.asD, and_true] <;> (first | (unfold mergedS; simp_all; done) | (have hm : mergedS l x = ([⟨x.at_, 1, noB, [], (findS l (named x.at_ x.name)).1.worth⟩], true) := (by unfold mergedS; simp_all; done); rw [hm]; exact ⟨rfl, rfl⟩)))
end Go.Vm
end
section
namespace Go.Vm
open Go.RowKit Go.Proofs
set_option linter.unusedVariables false
set_option linter.unusedSimpArgs false
set_option maxRecDepth 10000

set_option maxHeartbeats 1000000 in
theorem arrivals_any (l : List FieldD) (x : LensD) (ho : okL l) (hx0 : okX x) (hl : rightS l = true) (hx : rightL x = true) : Contract Try.prog 99 [.row (l.map fD), lD x] [.d (.row ((arrS l x).1.map fD)), .d (.sc (.bool ((arrS l x).2)))] := by
 refine T.fn [] Try.func99 ?_
 refine br (fun hc1 => ?y1) (fun hc1 => ?n1)
 case' y1 =>
  have hkkind_2 := hc1
  refine x_call T.en_64 (fieldOwn_any _ hx0.1) ?_
 case' n1 =>
  have hnkind_2 := hc1
  refine br (fun hc2 => ?y2) (fun hc2 => ?n2)
  case' y2 =>
   have hkkind_3 := hc2
   refine x_call T.en_41 (schemaFind_any _ _ ho) ?_
   refine br (fun hg3 => ?y3) (fun hg3 => ?n3)
   case' y3 =>
    refine x_call T.en_58 (by first | exact fieldSame_any _ x.field (find_ok ho) | exact fieldSame_any _ ⟨x.at_, 3, x.name, froms x.forth, 0⟩ (find_ok ho)) ?_
  case' n2 =>
   have hnkind_3 := hc2
   refine br (fun hc4 => ?y4) (fun hc4 => ?n4)
   case' y4 =>
    have hkkind_9 := hc4
    refine x_call T.en_125 (merged_any _ _ ho hx0 hl hx (by omega)) ?_
   case' n4 =>
    have hnkind_9 := hc4
    refine x_call T.en_41 (schemaFind_any _ _ ho) ?_
    refine br (fun hc5 => ?y5) (fun hc5 => ?n5)
    case' y5 =>
     have hf1 : ¬ (findS l x.at_).2 = 0 := by simpa using hc5
    case' n5 =>
     have hf0 : (findS l x.at_).2 = 0 := by simpa using hc5
     refine x_call T.en_13 (lensComes_at _ hx0 hx) ?_
     refine br (fun hc6 => ?y6) (fun hc6 => ?n6)
     case' y6 =>
      have hkkind_6 := hc6
      refine And.intro ⟨T.mixed, by decide +kernel⟩ ?_
      first | refine x_ix (by first | exact go9_0 (by omega) | exact go9_1 (by omega) | exact co6_0 (by omega) | exact co6_1 (by omega) | exact co_0 (by omega)) ?_ | refine x_ixI (by first | exact go9_0 (by omega) | exact go9_1 (by omega) | exact co6_0 (by omega) | exact co6_1 (by omega) | exact co_0 (by omega)) ?_
      refine And.intro ⟨T.mixed, by decide +kernel⟩ ?_
      first | refine x_ix (by first | exact go9_0 (by omega) | exact go9_1 (by omega) | exact co6_0 (by omega) | exact co6_1 (by omega) | exact co_0 (by omega)) ?_ | refine x_ixI (by first | exact go9_0 (by omega) | exact go9_1 (by omega) | exact co6_0 (by omega) | exact co6_1 (by omega) | exact co_0 (by omega)) ?_
      first | refine x_bin (pr_mul (wrap64 _ (mul_bound (find_worth hl hf0) (factor_ok hx (by omega))))) rfl ?_ | refine x_mul ?_ | refine x_bin rfl rfl ?_
      refine And.intro ⟨T.mixed, by decide +kernel⟩ ?_
     case' n6 =>
      have hnkind_6 := hc6
      refine br (fun hc7 => ?y7) (fun hc7 => ?n7)
      case' y7 =>
       have hkkind_7 := hc7
       refine And.intro ⟨T.mixed, by decide +kernel⟩ ?_
       refine br (fun hg8 => ?y8) (fun hg8 => ?n8)
      case' n7 =>
       have hnkind_7 := hc7
       refine br (fun hc9 => ?y9) (fun hc9 => ?n9)
       case' y9 =>
        have hkkind_10 := hc9
        refine And.intro ⟨T.mixed, by decide +kernel⟩ ?_
       case' n9 =>
        have hnkind_10 := hc9
        refine br (fun hc10 => ?y10) (fun hc10 => ?n10)
        case' y10 =>
         have hkkind_8 := hc10
         refine And.intro ⟨T.mixed, by decide +kernel⟩ ?_
         refine x_call T.en_126 (froms_any _ (by first | exact hx0.2.1 | exact hx0.2.2)) ?_
         refine And.intro ⟨T.mixed, by decide +kernel⟩ ?_
         refine x_call T.en_126 (froms_any _ (by first | exact hx0.2.1 | exact hx0.2.2)) ?_
         refine And.intro ⟨T.mixed, by decide +kernel⟩ ?_
         refine x_call T.en_58 (by first | exact fieldSame_any _ x.field (find_ok ho) | exact fieldSame_any _ ⟨x.at_, 3, x.name, froms x.forth, 0⟩ (find_ok ho)) ?_
        case' n10 =>
         have hnkind_8 := hc10
         first | refine x_ix (by first | exact go9_0 (by omega) | exact go9_1 (by omega) | exact co6_0 (by omega) | exact co6_1 (by omega) | exact co_0 (by omega)) ?_ | refine x_ixI (by first | exact go9_0 (by omega) | exact go9_1 (by omega) | exact co6_0 (by omega) | exact co6_1 (by omega) | exact co_0 (by omega)) ?_
 all_goals (refine x_ret ?_; simp only [fitsL, fits, C.asD, and_true] <;> (first | (rw [arr_2 hkkind_2]; exact ⟨rfl, rfl⟩) | (rw [arr_3 hkkind_3]; refine pair_and rfl ?_; simp_all; done) | (rw [arr_9 hkkind_9]; exact ⟨rfl, rfl⟩) | (rw [arr_no hnkind_2 hnkind_3 hnkind_9 hf1]; exact ⟨rfl, rfl⟩) | (rw [arr_6 hkkind_6 hf0]; exact ⟨rfl, rfl⟩) | (rw [arr_7 hkkind_7 hf0]; refine pair_and rfl ?_; simp_all; done) | (rw [arr_10 hkkind_10 hf0]; exact ⟨rfl, rfl⟩) | (rw [arr_8 hkkind_8 hf0]; exact ⟨rfl, rfl⟩) | (rw [arr_o (by omega) hf0]; exact ⟨rfl, rfl⟩)))
end Go.Vm
end
section
namespace Go.Vm
open Go.RowKit Go.Proofs
set_option linter.unusedVariables false
set_option linter.unusedSimpArgs false
set_option maxRecDepth 10000

theorem okL_sub {l m : List FieldD} (ho : okL l) (h : m.length ≤ 1000) (hs : ∀ f ∈ m, f ∈ l) : okL m := ⟨h, fun f hf => ho.2 f (hs f hf)⟩
theorem okL_del {l : List FieldD} {r : RefD} (ho : okL l) : okL (delF l r) := okL_sub ho (by have := ho.1; have h := List.length_filter_le (fun f => !decide (f.at_ = r)) l; unfold delF; omega) (fun f hf => (mem_delF.1 hf).1)
theorem okL_nil : okL [] := ⟨by simp, by simp⟩
theorem okL_without {l : List FieldD} {r : RefD} (ho : okL l) : okL (withoutS l r).1 := by
  unfold withoutS
  split
  · exact okL_nil
  split
  · exact okL_nil
  · exact okL_del ho
theorem okL_with {l : List FieldD} {f : FieldD} (ho : okL l) (hf : f.cases.length ≤ 1000000) : okL (withS l f).1 := by
  unfold withS
  split
  · exact okL_nil
  split
  · exact okL_nil
  split
  · exact okL_nil
  · refine ⟨by show (insF l f).length ≤ 1000; rw [length_insF]; omega, fun g hg => ?_⟩
    rcases mem_insF.1 hg with rfl | hg
    · exact hf
    · exact ho.2 g hg
theorem okL_withAll : ∀ {fs l : List FieldD}, okL l → (∀ f ∈ fs, f.cases.length ≤ 1000000) → okL (withAll l fs).1
  | [], l, h, _ => h
  | f :: fs, l, h, hf => by
    unfold withAll
    split
    · exact okL_withAll (okL_with h (hf f (List.mem_cons_self ..))) (fun g hg => hf g (List.mem_cons_of_mem _ hg))
    · exact okL_nil
theorem okL_delAll {rs : List RefD} : ∀ {l : List FieldD}, okL l → okL (delAll l rs) := by
  induction rs with
  | nil => intro l h; exact h
  | cons r rs ih => intro l h; exact ih (okL_del h)
theorem froms_ok {t : List (ByteArray × ByteArray)} (h : t.length ≤ 1000) : (froms t).length ≤ 1000000 := by unfold froms; rw [List.length_map]; omega
theorem news_ok {l : List FieldD} {x : LensD} {fs : List FieldD} (ho : okL l) (hx0 : okX x) (hat : ∀ g ∈ goesL x, ¬ indexS l g < 0) (h : newsL l x = some fs) : ∀ f ∈ fs, f.cases.length ≤ 1000000 := by
  have h1 := hx0.1
  have h2 := froms_ok hx0.2.2
  unfold newsL at h
  split at h
  · injection h with h; subst h; simpa using h1
  split at h
  · split at h
    · injection h with h; subst h; simp
    · cases h
  split at h
  · split at h
    · injection h with h; subst h; simp
    · cases h
  split at h
  · split at h
    · injection h with h; subst h; simp
    · cases h
  split at h
  · split at h
    · injection h with h; subst h; simp
    · cases h
  split at h
  · split at h
    · injection h with h; subst h; simp
    · cases h
  split at h
  · split at h
    · injection h with h; subst h; simpa using h2
    · cases h
  · rename_i q2 q3 q9 q6 q7 q10 q8
    injection h with h; subst h
    have hfa : (fieldAt l x.at_).cases.length ≤ 1000000 := ho.2 _ (fieldAt_spec (hat x.at_ (by rw [goes_o q2 q3 q9]; exact List.mem_singleton.2 rfl))).1
    cases comesL x with
    | nil => simp
    | cons c cs => simpa using hfa
theorem arr_ok {l : List FieldD} {x : LensD} (ho : okL l) (hx0 : okX x) (h : (arrS l x).2 = true) : ∀ f ∈ (arrS l x).1, f.cases.length ≤ 1000000 := by
  have hat : ∀ g ∈ goesL x, ¬ indexS l g < 0 := by
    intro g hg hn
    have := arr_missing (l := l) (x := x) (List.any_eq_true.2 ⟨g, hg, by simpa using hn⟩)
    rw [h] at this; cases this
  have h4 := arr_news hat
  cases hn : newsL l x with
  | none => rw [hn] at h4; simp only at h4; rw [h] at h4; cases h4
  | some fs => rw [hn] at h4; simp only at h4; rw [h4]; exact news_ok ho hx0 hat hn
theorem okL_apply {l : List FieldD} {x : LensD} (ho : okL l) (hx0 : okX x) : okL (applyS l x).1 := by
  unfold applyS
  split
  · exact okL_nil
  split
  · exact okL_nil
  rename_i hg
  have hat : ∀ g ∈ goesL x, ¬ indexS l g < 0 := by simpa using hg
  split
  · exact okL_nil
  · rename_i fs hfs
    exact okL_withAll (okL_delAll ho) (news_ok ho hx0 hat hfs)
theorem drop_at {α : Type} {l : List α} {k : Nat} {p : α} (hp : l[k]? = some p) : l.drop k = p :: l.drop (k + 1) := by
  obtain ⟨hlt, rfl⟩ := List.getElem?_eq_some_iff.1 hp
  exact List.drop_eq_getElem_cons hlt
theorem goes_len (x : LensD) : (goesL x).length ≤ 2 := by unfold goesL; (repeat' split) <;> simp
theorem app_5 {l : List FieldD} {x : LensD} (h : (rightS l && rightL x) = false) : applyS l x = ([], 5) := by unfold applyS; rw [if_pos h]
theorem app_arr {l : List FieldD} {x : LensD} (hl : rightS l = true) (hx : rightL x = true) (h : (arrS l x).2 = false) : applyS l x = ([], 16) := by rw [← applyP_eq]; unfold applyP; rw [hl, hx, if_neg (by simp), if_pos h]
theorem app_del {l : List FieldD} {x : LensD} (hl : rightS l = true) (hx : rightL x = true) (h : (arrS l x).2 = true) (hd : delLoop l (goesL x) = ([], 16)) : applyS l x = ([], 16) := by rw [← applyP_eq]; unfold applyP; rw [hl, hx, if_neg (by simp), h, if_neg (by simp), hd, if_pos (by simp)]
theorem app_with {l m : List FieldD} {x : LensD} (hl : rightS l = true) (hx : rightL x = true) (h : (arrS l x).2 = true) (hd : delLoop l (goesL x) = (m, 0)) : applyS l x = withAll m (arrS l x).1 := by rw [← applyP_eq]; unfold applyP; rw [hl, hx, if_neg (by simp), h, if_neg (by simp), hd, if_neg (by simp)]
theorem delLoop_hit {l : List FieldD} {r : RefD} {rs : List RefD} (h : ¬ (withoutS l r).2 = 0) : delLoop l (r :: rs) = ([], 16) := by unfold delLoop; rw [if_neg h]
theorem delLoop_next {l : List FieldD} {r : RefD} {rs : List RefD} (h : (withoutS l r).2 = 0) : delLoop l (r :: rs) = delLoop (withoutS l r).1 rs := by rw [delLoop, if_pos h]
theorem withAll_hit {l : List FieldD} {f : FieldD} {fs : List FieldD} (h : ¬ (withS l f).2 = 0) : withAll l (f :: fs) = ([], 16) := by rw [withAll, if_neg h]
theorem withAll_next {l : List FieldD} {f : FieldD} {fs : List FieldD} (h : (withS l f).2 = 0) : withAll l (f :: fs) = withAll (withS l f).1 fs := by rw [withAll, if_pos h]
theorem del_end {l m : List FieldD} {rs : List RefD} {k : Nat} (hk : rs.length ≤ k) (h : delLoop l rs = delLoop m (rs.drop k)) : delLoop l rs = (m, 0) := by rw [h, List.drop_eq_nil_of_le hk]; rfl
theorem with_end {l m fs : List FieldD} {k : Nat} (hk : fs.length ≤ k) (h : withAll l fs = withAll m (fs.drop k)) : withAll l fs = (m, 0) := by rw [h, List.drop_eq_nil_of_le hk]; rfl
theorem arr_len (l : List FieldD) (x : LensD) : (arrS l x).1.length ≤ 2 := by unfold arrS mergedS; (repeat' split) <;> simp

set_option maxHeartbeats 1000000 in
theorem apply_any (l : List FieldD) (x : LensD) (ho : okL l) (hx0 : okX x) : Contract Try.prog 39 [.row (l.map fD), lD x] [.d (.row ((applyS l x).1.map fD)), .d (.sc (.int .i64 (applyS l x).2))] := by
 refine T.fn [] Try.func39 ?_
 have hl0 := ho.1
 refine x_call T.en_98 (schemaRight_any _ ho) ?_
 refine br (fun hg1 => ?y1) (fun hg1 => ?n1)
 case' y1 =>
  refine brT ?_
  have h5 : (rightS l && rightL x) = false := by simp_all
 case' n1 =>
  refine x_call T.en_9 (lensRight_any _ hx0) ?_
  refine br (fun hc3 => ?y3) (fun hc3 => ?n3)
  case' y3 =>
   have h5 : (rightS l && rightL x) = false := by simp_all
  case' n3 =>
   have hg1 : rightS l = true ∧ rightL x = true := by simp_all
   have hl := hg1.1
   have hx := hg1.2
   refine x_call T.en_99 (arrivals_any _ _ ho hx0 hl hx) ?_
   refine br (fun hc4 => ?y4) (fun hc4 => ?n4)
   case' y4 =>
    have har : (arrS l x).2 = false := by simpa using hc4
   case' n4 =>
    have har : (arrS l x).2 = true := by simpa using hc4
    have haok := arr_ok ho hx0 har
    have hgl := goes_len x
    have hal := arr_len l x
    refine x_call T.en_97 (schemaOwn_any _ ho) ?_
    refine x_call T.en_12 (lensGoes_at _ hx0 hx) ?_
    refine x_len ?_
    refine xloopR (fb := []) T.ok (Nat.le_of_ble_eq_true rfl) [6, 33, 34] (fun (s : Nat × List FieldD) => [(35, .c (.d (.sc (.int .i64 ((s.1 : Nat) : Int))))), (8, .c (.d (.row (s.2.map fD))))]) (fun s => s.1 ≤ (goesL x).length ∧ okL s.2 ∧ delLoop l (goesL x) = delLoop s.2 ((goesL x).drop s.1)) (fun s => (goesL x).length - s.1) (0, l) ⟨Nat.zero_le _, ho, rfl⟩ (x_ent (by first | rfl | (simp only [Tr.get]; simp; done)) (x_ent (by first | rfl | (simp only [Tr.get]; simp; done)) trivial)) ?_
    rintro s ⟨hk, hok, hi⟩
    refine br (fun hc5 => ?y5) (fun hc5 => ?n5)
    case' y5 =>
     obtain ⟨p, hp⟩ := elem_at hc5
     have hkl := lt_len hp
     first | refine x_ix (by first | exact mapAt hp | exact mapAt hq) ?_ | refine x_ixI (by first | exact mapAt hp | exact mapAt hq) ?_
     refine x_call T.en_100 (schemaWithout_any _ _ hok) ?_
     refine br (fun hc6 => ?y6) (fun hc6 => ?n6)
     case' y6 =>
      have hc0 : ¬ (withoutS s.2 p).2 = 0 := by simpa using hc6
      have hD : delLoop l (goesL x) = ([], 16) := by rw [hi, drop_at hp]; exact delLoop_hit hc0
     case' n6 =>
      have hc0 : (withoutS s.2 p).2 = 0 := by simpa using hc6
      first | refine x_bin (pr_add1 (by omega)) rfl ?_ | refine x_inc ?_ | refine x_add ?_ | refine x_bin rfl rfl ?_
      refine x_rnd (s.1 + 1, (withoutS s.2 p).1) ⟨lt_len hp, okL_without hok, by rw [hi, drop_at hp]; exact delLoop_next hc0⟩ (by (try dsimp only); have := lt_len hp; (try dsimp only); omega) rfl (x_ent (by first | rfl | (simp only [Tr.get]; simp; done)) (x_ent (by first | rfl | (simp only [Tr.get]; simp; done)) trivial)) rfl
    case' n5 =>
     have hD : delLoop l (goesL x) = (s.2, 0) := del_end (past_end hc5) hi
     refine x_len ?_
     refine xloopR (fb := []) T.ok (Nat.le_of_ble_eq_true rfl) [48, 49] (fun (u : Nat × List FieldD) => [(50, .c (.d (.sc (.int .i64 ((u.1 : Nat) : Int))))), (8, .c (.d (.row (u.2.map fD))))]) (fun u => u.1 ≤ (arrS l x).1.length ∧ okL u.2 ∧ withAll s.2 (arrS l x).1 = withAll u.2 ((arrS l x).1.drop u.1)) (fun u => (arrS l x).1.length - u.1) (0, s.2) ⟨Nat.zero_le _, hok, rfl⟩ (x_ent (by first | rfl | (simp only [Tr.get]; simp; done)) (x_ent (by first | rfl | (simp only [Tr.get]; simp; done)) trivial)) ?_
     rintro u ⟨hk2, hok, hv⟩
     refine br (fun hc7 => ?y7) (fun hc7 => ?n7)
     case' y7 =>
      obtain ⟨q, hq⟩ := elem_at hc7
      have hkl2 := lt_len hq
      first | refine x_ix (by first | exact mapAt hp | exact mapAt hq) ?_ | refine x_ixI (by first | exact mapAt hp | exact mapAt hq) ?_
      refine x_call T.en_101 (schemaWith_any _ _ hok (haok _ (List.mem_of_getElem? hq))) ?_
      refine br (fun hc8 => ?y8) (fun hc8 => ?n8)
      case' y8 =>
       have hw0 : ¬ (withS u.2 q).2 = 0 := by simpa using hc8
       have hW : withAll s.2 (arrS l x).1 = ([], 16) := by rw [hv, drop_at hq]; exact withAll_hit hw0
      case' n8 =>
       have hw0 : (withS u.2 q).2 = 0 := by simpa using hc8
       first | refine x_bin (pr_add1 (by omega)) rfl ?_ | refine x_inc ?_ | refine x_add ?_ | refine x_bin rfl rfl ?_
       refine x_rnd (u.1 + 1, (withS u.2 q).1) ⟨lt_len hq, okL_with hok (haok _ (List.mem_of_getElem? hq)), by rw [hv, drop_at hq]; exact withAll_next hw0⟩ (by (try dsimp only); have := lt_len hq; (try dsimp only); omega) rfl (x_ent (by first | rfl | (simp only [Tr.get]; simp; done)) (x_ent (by first | rfl | (simp only [Tr.get]; simp; done)) trivial)) rfl
     case' n7 =>
      have hW : withAll s.2 (arrS l x).1 = (u.2, 0) := with_end (past_end hc7) hv
 all_goals (refine x_ret ?_; simp only [fitsL, fits, C.asD, and_true] <;> (first | (rw [app_5 h5]; exact ⟨rfl, rfl⟩) | (rw [app_arr hl hx har]; exact ⟨rfl, rfl⟩) | (rw [app_with hl hx har hD, hW]; exact ⟨rfl, rfl⟩) | (rw [app_del hl hx har hD]; exact ⟨rfl, rfl⟩)))
end Go.Vm
end
section
namespace Go.Vm
open Go.RowKit Go.Proofs
set_option linter.unusedVariables false
set_option linter.unusedSimpArgs false
set_option maxRecDepth 10000

theorem right_kind {x : LensD} (h : rightL x = true) : 1 ≤ x.kind ∧ x.kind ≤ 10 := by
  by_cases h1 : x.kind = 2 ∨ x.kind = 3
  · omega
  by_cases h2 : x.kind = 8
  · omega
  by_cases h3 : x.kind = 6 ∨ x.kind = 9
  · omega
  by_cases h4 : x.kind = 7 ∨ x.kind = 10
  · omega
  by_cases h5 : x.kind = 1
  · omega
  by_cases h6 : x.kind = 4
  · omega
  by_cases h7 : x.kind = 5
  · omega
  unfold rightL at h
  rw [if_neg h1, if_neg h2, if_neg h3, if_neg h4, if_neg h5, if_neg h6, if_neg h7] at h
  simp at h
theorem refApp_5 {l : List FieldD} {x : LensD} (h : (rightS l && rightL x) = false) : applyS l x = ([], 5) := app_5 h
theorem refApp_gone {l : List FieldD} {x : LensD} {p : RefD} {k : Nat} (hl : rightS l = true) (hx : rightL x = true) (hp : (goesL x)[k]? = some p) (h : indexS l p < 0) : applyS l x = ([], 16) := by
  unfold applyS; rw [hl, hx, if_neg (by simp), if_pos (List.any_eq_true.2 ⟨p, List.mem_of_getElem? hp, by simpa using h⟩)]
theorem refApp_go {l : List FieldD} {x : LensD} (hl : rightS l = true) (hx : rightL x = true) (hall : ∀ g ∈ goesL x, ¬ indexS l g < 0) : applyS l x = if (refA (delAll l (goesL x)) (at0 (wasL l x)) (at1 (wasL l x)) x).2 = false then ([], 16) else ((refA (delAll l (goesL x)) (at0 (wasL l x)) (at1 (wasL l x)) x).1, 0) := by
  rw [← applyR_eq]; unfold applyR
  rw [hl, hx, if_neg (by simp), if_neg]
  intro h
  obtain ⟨g, hg, h⟩ := List.any_eq_true.1 h
  exact hall g hg (by simpa using h)
theorem app_16 {l m : List FieldD} {x : LensD} {R : List FieldD × Bool} (h : applyS l x = if R.2 = false then ([], 16) else (R.1, 0)) (h2 : R.2 = false) : D.row [] = D.row ((applyS l x).1.map fD) ∧ D.sc (.int .i64 16) = D.sc (.int .i64 (applyS l x).2) := by rw [h, if_pos h2]; exact ⟨rfl, rfl⟩
theorem app_0 {l m : List FieldD} {x : LensD} {R : List FieldD × Bool} (h : applyS l x = if R.2 = false then ([], 16) else (R.1, 0)) (h2 : R.2 = true) (h3 : R.1 = m) : D.row (m.map fD) = D.row ((applyS l x).1.map fD) ∧ D.sc (.int .i64 0) = D.sc (.int .i64 (applyS l x).2) := by rw [h, if_neg (by rw [h2]; simp), ← h3]; exact ⟨rfl, rfl⟩
theorem delAll_next {l : List FieldD} {rs : List RefD} {k : Nat} {p : RefD} (hp : rs[k]? = some p) : delAll l (rs.take (k + 1)) = delF (delAll l (rs.take k)) p := by
  unfold delAll; rw [take_next hp, List.foldl_append]; rfl
theorem without_step {l : List FieldD} {rs : List RefD} {k : Nat} {p : RefD} (hl : rightS l = true) (hnd : rs.Nodup) (hp : rs[k]? = some p) (h : ¬ indexS l p < 0) : (withoutS (delAll l (rs.take k)) p).1 = delAll l (rs.take (k + 1)) := by
  have hr := rightS_delAll (rs := rs.take k) hl
  have h2 : 0 ≤ indexS l p := by omega
  obtain ⟨f, hf, e⟩ := index_pos.1 h2
  have hnot : p ∉ rs.take k := by
    intro hm
    obtain ⟨j, hj, e2⟩ := List.getElem_of_mem hm
    have hjk : j < k := by rw [List.length_take] at hj; omega
    obtain ⟨hlt, e3⟩ := List.getElem?_eq_some_iff.1 hp
    rw [List.getElem_take] at e2
    have := (List.nodup_iff_pairwise_ne.1 hnd)
    rw [List.pairwise_iff_getElem] at this
    exact this j k (by omega) hlt hjk (by rw [e2, e3])
  have h3 : 0 ≤ indexS (delAll l (rs.take k)) p := index_pos.2 ⟨f, mem_delAll.2 ⟨hf, by rw [e]; exact hnot⟩, e⟩
  rw [without_ok hr (by omega), delAll_next hp]
theorem was_next {l : List FieldD} {rs : List RefD} {k : Nat} {p : RefD} (hp : rs[k]? = some p) : (rs.take (k + 1)).map (fieldAt l) = (rs.take k).map (fieldAt l) ++ [fieldAt l p] := by rw [take_next hp]; simp
theorem was_0 {l A : List FieldD} {x : LensD} (hA : A = wasL l x) (h2 : ¬ x.kind = 2) : (A.map fD)[(0 : Int).toNat]? = some (fD (at0 (wasL l x))) := by
  subst hA
  unfold wasL at0
  have : goesL x ≠ [] := by unfold goesL; simp only [h2, if_false]; (repeat' split) <;> simp
  cases h : goesL x with
  | nil => exact absurd h this
  | cons c cs => rfl
theorem was_1 {l A : List FieldD} {x : LensD} (hA : A = wasL l x) (h9 : x.kind = 9) : (A.map fD)[(1 : Int).toNat]? = some (fD (at1 (wasL l x))) := by subst hA; unfold wasL at1; rw [goes_9 h9]; rfl
theorem was_in {l : List FieldD} {x : LensD} (hall : ∀ g ∈ goesL x, ¬ indexS l g < 0) (h2 : ¬ x.kind = 2) : at0 (wasL l x) ∈ l := by
  unfold wasL at0
  have : goesL x ≠ [] := by unfold goesL; simp only [h2, if_false]; (repeat' split) <;> simp
  cases h : goesL x with
  | nil => exact absurd h this
  | cons c cs => exact (fieldAt_spec (hall c (by rw [h]; exact List.mem_cons_self ..))).1
theorem was_worth {l : List FieldD} {x : LensD} (hl : rightS l = true) (hall : ∀ g ∈ goesL x, ¬ indexS l g < 0) (h2 : ¬ x.kind = 2) : 0 ≤ (at0 (wasL l x)).worth ∧ (at0 (wasL l x)).worth ≤ 1048576 := rightF_worth (rightS_mem hl (was_in hall h2))
theorem was_ok {l : List FieldD} {x : LensD} (ho : okL l) (hall : ∀ g ∈ goesL x, ¬ indexS l g < 0) (h2 : ¬ x.kind = 2) : (at0 (wasL l x)).cases.length ≤ 1000000 := ho.2 _ (was_in hall h2)
theorem okL_put {l : List FieldD} {f : FieldD} {b : Bool} (ho : okL l) (hf : f.cases.length ≤ 1000000) : okL (putS l f b).1 := okL_with ho hf
theorem all_next {l : List FieldD} {rs : List RefD} {k : Nat} {p : RefD} (hp : rs[k]? = some p) (h : ∀ g ∈ rs.take k, ¬ indexS l g < 0) (hn : ¬ indexS l p < 0) : ∀ g ∈ rs.take (k + 1), ¬ indexS l g < 0 := by
  intro g hg
  rw [take_next hp, List.mem_append, List.mem_singleton] at hg
  rcases hg with hg | rfl
  · exact h g hg
  · exact hn

end Go.Vm
end
section
namespace Go.Vm
open Go.RowKit
set_option linter.unusedVariables false
set_option linter.unusedSimpArgs false

section
variable {P : Program} {N : Nat} {t : Tr} {h : Hp} {o : Oper}

theorem at_map {id : Nat} {es : List (D × D)} (hb : NAM ≤ id) (hm : h id = .mapo es) : envT t h id = .mapo es := by rw [envT_at hb, hm]; rfl
theorem at_free {id : Nat} (hb : NAM ≤ id) (hm : h id = .free) : envT t h id = .free := by rw [envT_at hb, hm]; rfl

theorem x_look {MT KT ET : TypeId} {dom : D → Prop} {x y : Nat} {id d : Nat} {es : List (D × D)} {k z r : D} {K : S → Hp → Prop} (hK : K (.c (.d r)) h) (hm : NAM ≤ id ∧ h id = .mapo es) (hk : KeyOk P KT dom) (hd0 : dom k) (hdom : ∀ p ∈ es, dom p.1) (hT : P.underlying MT = some (.map KT ET)) (hz : zeroD P ET = some z) (hr : ((findD k es 0).map (·.2)).getD z = r)
    (hop : o.op = .lookup MT (.tmp x) (.tmp y) false := by rfl) (hx : vd (envT t h) (.tmp x) = some (.mp id) := by rfl) (hy : vd (envT t h) (.tmp y) = some k := by rfl) (hd : o.dst = some d := by rfl) (hdN : d < N := by exact Nat.le_of_ble_eq_true rfl) :
    ∃ (s : S) (h' : Hp), Step P N o (envT t h) (upd (envT t h') (some d) s) ∧ K s h' :=
  x_fy (y_lookup hop hx (at_map hm.1 hm.2) (namb hm.1) hy hT hk hd0 hdom hz hr hd hdN) hK hd
theorem x_look2 {MT KT ET : TypeId} {dom : D → Prop} {x y : Nat} {id d : Nat} {es : List (D × D)} {k z r : D} {found : Bool} {K : S → Hp → Prop} (hK : K (.tup [.d r, .d (.sc (.bool found))]) h) (hm : NAM ≤ id ∧ h id = .mapo es) (hk : KeyOk P KT dom) (hd0 : dom k) (hdom : ∀ p ∈ es, dom p.1) (hT : P.underlying MT = some (.map KT ET)) (hz : zeroD P ET = some z) (hr : ((findD k es 0).map (·.2)).getD z = r) (hf : (findD k es 0).isSome = found)
    (hop : o.op = .lookup MT (.tmp x) (.tmp y) true := by rfl) (hx : vd (envT t h) (.tmp x) = some (.mp id) := by rfl) (hy : vd (envT t h) (.tmp y) = some k := by rfl) (hd : o.dst = some d := by rfl) (hdN : d < N := by exact Nat.le_of_ble_eq_true rfl) :
    ∃ (s : S) (h' : Hp), Step P N o (envT t h) (upd (envT t h') (some d) s) ∧ K s h' :=
  x_fy (y_lookup2 hop hx (at_map hm.1 hm.2) (namb hm.1) hy hT hk hd0 hdom hz hr hf hd hdN) hK hd
theorem dg_of {ops : Array Oper} {d : Nat} {s : S} (hy : Yield P N o (envT t h) s) (hd : o.dst = some d) (hdN : d < N) (hNB : N ≤ BIG) (hg : guardOk ops o (envT t h) = some true) (hn : nb s = true) (hr : refOk o (envT t h) s = true) (hdr : derefOk ops o (envT t h) = true) : DG P N ops o (envT t h) (.slot (some d) s) := by
  have := dg_yield hg hy hn hr hdr (fun u hu => by rw [hd] at hu; injection hu with hu; exact hu ▸ Nat.lt_of_lt_of_le hdN hNB)
  rwa [hd] at this
theorem q_look {ops : Array Oper} {MT KT ET : TypeId} {dom : D → Prop} {x y : Nat} {id d : Nat} {es : List (D × D)} {k z r : D} {K : S → Prop} (hK : K (.c (.d r))) (hm : NAM ≤ id ∧ h id = .mapo es) (hk : KeyOk P KT dom) (hd0 : dom k) (hdom : ∀ p ∈ es, dom p.1) (hT : P.underlying MT = some (.map KT ET)) (hz : zeroD P ET = some z) (hr : ((findD k es 0).map (·.2)).getD z = r)
    (hop : o.op = .lookup MT (.tmp x) (.tmp y) false := by rfl) (hx : vd (envT t h) (.tmp x) = some (.mp id) := by rfl) (hy : vd (envT t h) (.tmp y) = some k := by rfl) (hd : o.dst = some d := by rfl) (hdN : d < N := by exact Nat.le_of_ble_eq_true rfl) (hNB : N ≤ BIG := by exact Nat.le_of_ble_eq_true rfl) (hg : guardOk ops o (envT t h) = some true := by rfl) :
    ∃ s, DG P N ops o (envT t h) (.slot (some d) s) ∧ K s :=
  ⟨_, dg_of (y_lookup hop hx (at_map hm.1 hm.2) (namb hm.1) hy hT hk hd0 hdom hz hr hd hdN) hd hdN hNB hg rfl rfl (by unfold derefOk addrOf; rw [hop]), hK⟩
theorem q_look2 {ops : Array Oper} {MT KT ET : TypeId} {dom : D → Prop} {x y : Nat} {id d : Nat} {es : List (D × D)} {k z r : D} {found : Bool} {K : S → Prop} (hK : K (.tup [.d r, .d (.sc (.bool found))])) (hm : NAM ≤ id ∧ h id = .mapo es) (hk : KeyOk P KT dom) (hd0 : dom k) (hdom : ∀ p ∈ es, dom p.1) (hT : P.underlying MT = some (.map KT ET)) (hz : zeroD P ET = some z) (hr : ((findD k es 0).map (·.2)).getD z = r) (hf : (findD k es 0).isSome = found)
    (hop : o.op = .lookup MT (.tmp x) (.tmp y) true := by rfl) (hx : vd (envT t h) (.tmp x) = some (.mp id) := by rfl) (hy : vd (envT t h) (.tmp y) = some k := by rfl) (hd : o.dst = some d := by rfl) (hdN : d < N := by exact Nat.le_of_ble_eq_true rfl) (hNB : N ≤ BIG := by exact Nat.le_of_ble_eq_true rfl) (hg : guardOk ops o (envT t h) = some true := by rfl) :
    ∃ s, DG P N ops o (envT t h) (.slot (some d) s) ∧ K s :=
  ⟨_, dg_of (y_lookup2 hop hx (at_map hm.1 hm.2) (namb hm.1) hy hT hk hd0 hdom hz hr hf hd hdN) hd hdN hNB hg rfl rfl (by unfold derefOk addrOf; rw [hop]), hK⟩
theorem x_lenm {T KT ET : TypeId} {x : Nat} {id d n : Nat} {es : List (D × D)} {K : S → Hp → Prop} (hK : K (.c (.d (.sc (.int .i64 n)))) h) (hm : NAM ≤ id ∧ h id = .mapo es) (hT : P.underlying T = some (.map KT ET)) (hn : es.length = n)
    (hop : o.op = .call { callee := .builtin .len, args := #[.tmp x], argTypes := #[T] } := by rfl) (hx : vd (envT t h) (.tmp x) = some (.mp id) := by rfl) (hd : o.dst = some d := by rfl) (hdN : d < N := by exact Nat.le_of_ble_eq_true rfl) :
    ∃ (s : S) (h' : Hp), Step P N o (envT t h) (upd (envT t h') (some d) s) ∧ K s h' :=
  x_fy (y_lenm hop hx (at_map hm.1 hm.2) (namb hm.1) hT hn hd hdN) hK hd
theorem x_range {MT KT ET : TypeId} {x : Nat} {id d n : Nat} {es : List (D × D)} {K : S → Hp → Prop} (hK : K (.iter id n []) h) (hm : NAM ≤ id ∧ h id = .mapo es) (hT : P.underlying MT = some (.map KT ET)) (hn : es.length = n)
    (hop : o.op = .range MT (.tmp x) := by rfl) (hx : vd (envT t h) (.tmp x) = some (.mp id) := by rfl) (hd : o.dst = some d := by rfl) (hdN : d < N := by exact Nat.le_of_ble_eq_true rfl) :
    ∃ (s : S) (h' : Hp), Step P N o (envT t h) (upd (envT t h') (some d) s) ∧ K s h' := by
  subst hn
  exact ⟨_, h, s_range hop hx (at_map hm.1 hm.2) hT hd hdN, hK⟩
theorem x_entry {it id d n i : Nat} {l : List Nat} {es : List (D × D)} {p : D × D} {K : S → Hp → Prop} (hK : K (.tup [.d p.1, .d p.2]) h) (hm : NAM ≤ id ∧ h id = .mapo es) (hn : es.length = n) (hp : es[i]? = some p)
    (hop : o.op = .entry (.tmp it) := by rfl) (hit : t.get it = .iter id n (l ++ [i]) := by rfl) (hi : it < NAM := by exact Nat.le_of_ble_eq_true rfl) (hd : o.dst = some d := by rfl) (hdN : d < N := by exact Nat.le_of_ble_eq_true rfl) :
    ∃ (s : S) (h' : Hp), Step P N o (envT t h) (upd (envT t h') (some d) s) ∧ K s h' :=
  ⟨_, h, s_entry hop (by rw [envT_lt hi]; exact hit) (at_map hm.1 hm.2) hn hp hd hdN, hK⟩
theorem x_put {MT KT ET : TypeId} {dom : D → Prop} {x y z : Nat} {id : Nat} {es es' : List (D × D)} {k v : D} {K : Nat → S → Prop} (hK : K id (.mapo es')) (hm : NAM ≤ id ∧ h id = .mapo es) (hk : KeyOk P KT dom) (hd0 : dom k) (hdom : ∀ p ∈ es, dom p.1) (hT : P.underlying MT = some (.map KT ET)) (hes : putD k v es = es')
    (hop : o.op = .mapUpdate MT (.tmp x) (.tmp y) (.tmp z) := by rfl) (hx : vd (envT t h) (.tmp x) = some (.mp id) := by rfl) (hy : vd (envT t h) (.tmp y) = some k := by rfl) (hz : vd (envT t h) (.tmp z) = some v := by rfl) (hd : o.dst = none := by rfl) :
    ∃ (id : Nat) (s : S), (NAM ≤ id ∧ Step P N o (envT t h) (upd (envT t h) (some id) (nameS s))) ∧ K id s :=
  ⟨id, .mapo es', ⟨hm.1, s_mapUpdate hop hx (at_map hm.1 hm.2) hy hz hT hk hd0 hdom hes hd⟩, hK⟩
theorem x_mkmap {MT : TypeId} {d : Nat} {K : S → Hp → Prop} (n : Nat) (hK : K (.c (.d (.mp n))) (hset h n (.mapo []))) (hm : NAM ≤ n ∧ h n = .free) (hop : o.op = .makeMap MT none := by rfl) (hd : o.dst = some d := by rfl) (hdN : d < N := by exact Nat.le_of_ble_eq_true rfl) (hNB : N ≤ BIG := by exact Nat.le_of_ble_eq_true rfl) :
    ∃ (s : S) (h' : Hp), Step P N o (envT t h) (upd (envT t h') (some d) s) ∧ K s h' := by
  refine ⟨_, _, ?_, hK⟩
  unfold hset
  rw [envT_name hm.1]
  exact s_makeMap hop (at_free hm.1 hm.2) hd hdN (by have := namb hm.1; omega)
theorem x_newbox {T : TypeId} {x : Nat} {d : Nat} {r : D} {cs : List D} {K : S → Hp → Prop} (n : Nat) (hK : K (.c (.d (.ptr n 0))) (hset h n (.obj cs))) (hm : NAM ≤ n ∧ h n = .free) (hc : r.cells = cs := by rfl) (hop : o.op = .box T (.tmp x) := by rfl) (hx : vd (envT t h) (.tmp x) = some r := by rfl) (hd : o.dst = some d := by rfl) (hdN : d < N := by exact Nat.le_of_ble_eq_true rfl) (hNB : N ≤ BIG := by exact Nat.le_of_ble_eq_true rfl) :
    ∃ (s : S) (h' : Hp), Step P N o (envT t h) (upd (envT t h') (some d) s) ∧ K s h' := by
  subst hc
  refine ⟨_, _, ?_, hK⟩
  unfold hset
  rw [envT_name hm.1]
  exact s_new_box hop hx (at_free hm.1 hm.2) hd hdN (by have := namb hm.1; omega)
theorem x_newalloc {T : TypeId} {d : Nat} {cs : List D} {K : S → Hp → Prop} (n : Nat) (hK : K (.c (.d (.ptr n 0))) (hset h n (.obj cs))) (hm : NAM ≤ n ∧ h n = .free) (hz : zeroOf P T = some cs) (hop : o.op = .alloc T := by rfl) (hd : o.dst = some d := by rfl) (hdN : d < N := by exact Nat.le_of_ble_eq_true rfl) (hNB : N ≤ BIG := by exact Nat.le_of_ble_eq_true rfl) :
    ∃ (s : S) (h' : Hp), Step P N o (envT t h) (upd (envT t h') (some d) s) ∧ K s h' := by
  refine ⟨_, _, ?_, hK⟩
  unfold hset
  rw [envT_name hm.1]
  exact s_new_alloc hop hz (at_free hm.1 hm.2) hd hdN (by have := namb hm.1; omega)
/-- What stands at names behind a call. -/
def hpost (h : Hp) : List (Nat × S) → Hp
  | [] => h
  | (n, s) :: l => hset (hpost h l) n s
theorem hpost_find : ∀ (l : List (Nat × S)) (h : Hp) (u : Nat), hpost h l u = match l.find? fun p => p.1 == u with | some p => p.2 | none => h u
  | [], h, u => rfl
  | (n, s) :: l, h, u => by
    simp only [hpost, hset, List.find?_cons]
    by_cases e : u = n
    · subst e; simp
    · have : (n == u) = false := by simpa using fun h => e h.symm
      simp only [if_neg e, this]; exact hpost_find l h u
/-- The names that a call is told of, and what stands there. -/
def preOk (h : Hp) : List (Nat × S) → Prop
  | [] => True
  | (n, s) :: l => (NAM ≤ n ∧ h n = s) ∧ preOk h l
theorem preOk_spec : ∀ {pre : List (Nat × S)}, preOk h pre → ∀ p ∈ pre, NAM ≤ p.1 ∧ h p.1 = p.2
  | [], _, p, hp => by cases hp
  | (n, s) :: l, ⟨h1, h2⟩, p, hp => by
    rcases List.mem_cons.1 hp with rfl | hp
    · exact h1
    · exact preOk_spec h2 p hp
theorem setH_env {pre post : List (Nat × S)} (hpre : preOk h pre) (hq : ∀ p ∈ post, live p.2 = true ∧ nameIn pre p.1 = true) (hall : ∀ p ∈ pre, nameIn post p.1 = true) : setH pre post (envT t h) = envT t (hpost h post) := by
  have hp := preOk_spec hpre
  have hbig : ∀ p ∈ post, NAM ≤ p.1 := fun p hm => by
    obtain ⟨s, hs⟩ := nameIn_mem (hq p hm).2
    exact (hp _ hs).1
  funext u
  unfold setH
  by_cases hu : u < NAM
  · have h1 : (post.find? fun p => p.1 == u) = none := by
      rw [List.find?_eq_none]; intro p hm; have := hbig p hm; simp only [beq_iff_eq]; omega
    have h2 : nameIn pre u = false := by
      unfold nameIn
      rw [List.any_eq_false]
      intro p hm; have := (hp p hm).1; simp only [beq_iff_eq]; omega
    rw [h1, h2, envT_lt hu, envT_lt hu]; rfl
  · have hge : NAM ≤ u := by omega
    have e2 : envT t (hpost h post) u = nameS (hpost h post u) := envT_at hge
    rw [e2, hpost_find]
    cases hf : post.find? fun p => p.1 == u with
    | some p =>
      have hl := (hq p (List.mem_of_find?_eq_some hf)).1
      simp only
      cases hs : p.2 <;> rw [hs] at hl <;> first | rfl | cases hl
    | none =>
      simp only
      have h2 : nameIn pre u = false := by
        cases h3 : nameIn pre u with
        | false => rfl
        | true =>
          obtain ⟨s, hs⟩ := nameIn_mem h3
          have h4 := hall _ hs
          obtain ⟨s', hs'⟩ := nameIn_mem h4
          have := List.find?_eq_none.1 hf _ hs'
          simp at this
      rw [h2, envT_at hge]; rfl
theorem pre_env {pre : List (Nat × S)} (hpre : preOk h pre) (hl : ∀ p ∈ pre, live p.2 = true ∨ p.2 = .free) : ∀ p ∈ pre, envT t h p.1 = p.2 ∧ (live p.2 = true ∨ p.2 = .free) := by
  intro p hm
  refine ⟨?_, hl p hm⟩
  obtain ⟨h1, h2⟩ := preOk_spec hpre p hm
  rw [envT_at h1, h2]
  rcases hl p hm with h3 | h3
  · cases hs : p.2 <;> rw [hs] at h3 <;> first | rfl | cases h3
  · rw [h3]; rfl
theorem post_big {pre post : List (Nat × S)} (hpre : preOk h pre) (hq : ∀ p ∈ post, live p.2 = true ∧ nameIn pre p.1 = true) : ∀ p ∈ post, live p.2 = true ∧ nameIn pre p.1 = true ∧ BIG ≤ p.1 := fun p hm => by
  obtain ⟨s, hs⟩ := nameIn_mem (hq p hm).2
  exact ⟨(hq p hm).1, (hq p hm).2, namb (preOk_spec hpre _ hs).1⟩
theorem x_callH {f : FuncId} {xs : Array Operand} {ts : Array TypeId} {ds : List D} {res : List C} {d : Nat} {pre post : List (Nat × S)} {K : S → Hp → Prop} (he : enters P f = true) (hc : ContractH P f ds pre res post) (hK : K (resS (res.map (setTok d))) (hpost h post)) (hpre : preOk h pre)
    (hl : ∀ p ∈ pre, live p.2 = true ∨ p.2 = .free := by simp [live]) (hq : ∀ p ∈ post, live p.2 = true ∧ nameIn pre p.1 = true := by simp [live, nameIn]) (hall : ∀ p ∈ pre, nameIn post p.1 = true := by simp [nameIn])
    (hop : o.op = .call { callee := .value (.func f), args := xs, argTypes := ts } := by rfl) (hx : vargs (envT t h) xs.toList = some ds := by rfl) (hd : o.dst = some d := by rfl) (hdN : d < N := by exact Nat.le_of_ble_eq_true rfl) (hNB : N ≤ BIG := by exact Nat.le_of_ble_eq_true rfl) :
    ∃ (s : S) (h' : Hp), Step P N o (envT t h) (upd (envT t h') (some d) s) ∧ K s h' := by
  refine ⟨_, _, ?_, hK⟩
  have := s_callH (N := N) (env := envT t h) hop he hx hc (pre_env hpre hl) (post_big hpre hq) hd hdN hNB
  rwa [setH_env hpre hq hall] at this
/-- A call of which it is only known that it makes one of those x. -/
theorem x_callE {α : Type} {R : α → Prop} {f : FuncId} {xs : Array Operand} {ts : Array TypeId} {ds : List D} {res : α → List C} {d : Nat} {pre : List (Nat × S)} {post : α → List (Nat × S)} {K : Tr → Hp → Prop} (he : enters P f = true) (hc : ContractE P f ds pre R res post)
    (hK : ∀ x, R x → setK 20 t d (resS ((res x).map (setTok d))) fun t' => K t' (hpost h (post x))) (hpre : preOk h pre)
    (hl : ∀ p ∈ pre, live p.2 = true ∨ p.2 = .free := by simp [live]) (hq : ∀ x, R x → ∀ p ∈ post x, live p.2 = true ∧ nameIn pre p.1 = true := by simp [live, nameIn]) (hall : ∀ x, R x → ∀ p ∈ pre, nameIn (post x) p.1 = true := by simp [nameIn])
    (hop : o.op = .call { callee := .value (.func f), args := xs, argTypes := ts } := by rfl) (hx : vargs (envT t h) xs.toList = some ds := by rfl) (hd : o.dst = some d := by rfl) (hdN : d < N := by exact Nat.le_of_ble_eq_true rfl) (hNB : N ≤ BIG := by exact Nat.le_of_ble_eq_true rfl) :
    StepP P N o (envT t h) fun e => ∃ (t' : Tr) (h' : Hp), e = envT t' h' ∧ K t' h' := by
  intro base w0 ro0 a w hs K' Q hK'
  refine s_callE (N := N) (env := envT t h) hop he hx hc (pre_env hpre hl) (fun x hx => post_big hpre (hq x hx)) hd hdN hNB base w0 ro0 a w hs K' Q ?_
  rintro e a' w' ⟨x, hxR, rfl⟩ hs'
  obtain ⟨t', h3, h4⟩ := setK_spec (hK x hxR)
  refine hK' _ a' w' ⟨t', _, rfl, h4⟩ ?_
  rw [envT_set (nam (Nat.lt_of_lt_of_le hdN hNB)) h3, ← setH_env hpre (hq x hxR) (hall x hxR)]
  exact hs'
theorem hset_self {h : Hp} {n : Nat} {s : S} (e : h n = s) : hset h n s = h := by
  funext u; simp only [hset]; split
  · rename_i e2; rw [e2, e]
  · rfl
theorem hset_hset (h : Hp) (n : Nat) (a b : S) : hset (hset h n a) n b = hset h n b := by
  funext u; simp only [hset]; split <;> rfl
theorem hpost_self : ∀ {pre : List (Nat × S)}, preOk h pre → hpost h pre = h
  | [], _ => rfl
  | (n, s) :: l, hp => by
    simp only [hpost]
    rw [hpost_self hp.2]
    exact hset_self hp.1.2
/-- A call that only reads. -/
theorem x_callR {f : FuncId} {xs : Array Operand} {ts : Array TypeId} {ds : List D} {res : List C} {d : Nat} {pre : List (Nat × S)} {K : S → Hp → Prop} (he : enters P f = true) (hc : ContractH P f ds pre res pre) (hK : K (resS (res.map (setTok d))) h) (hpre : preOk h pre)
    (hl : ∀ p ∈ pre, live p.2 = true := by simp [live])
    (hop : o.op = .call { callee := .value (.func f), args := xs, argTypes := ts } := by rfl) (hx : vargs (envT t h) xs.toList = some ds := by rfl) (hd : o.dst = some d := by rfl) (hdN : d < N := by exact Nat.le_of_ble_eq_true rfl) (hNB : N ≤ BIG := by exact Nat.le_of_ble_eq_true rfl) :
    ∃ (s : S) (h' : Hp), Step P N o (envT t h) (upd (envT t h') (some d) s) ∧ K s h' := by
  have hin : ∀ p ∈ pre, nameIn pre p.1 = true := fun p hp => List.any_eq_true.2 ⟨p, hp, by simp⟩
  exact x_callH he hc (by rw [hpost_self hpre]; exact hK) hpre (fun p hp => .inl (hl p hp)) (fun p hp => ⟨hl p hp, hin p hp⟩) hin hop hx hd hdN hNB
end
end Go.Vm
end
section
namespace Go.Vm
open Go.RowKit
set_option linter.unusedVariables false
set_option linter.unusedSimpArgs false

structure TagD where
  r : Int
  n : Int
  deriving DecidableEq
def noTag : TagD := ⟨0, 0⟩
structure EdgeD where
  id : TagD
  parent : TagD
  lens : LensD
  deriving DecidableEq
structure NodeD where
  edge : EdgeD
  state : Int
  schema : List FieldD
  depth : Int
  deriving DecidableEq
def tD (t : TagD) : D := .agg [.sc (.int .i64 t.r), .sc (.int .i64 t.n)]
def lensC (x : LensD) : List D := [.sc (.int .i64 x.kind), .sc (.int .i64 x.at_.scope), .sc (.string x.at_.group), .sc (.string x.at_.name), .sc (.string x.name), .sc (.string x.other), .sc (.int .i64 x.factor),
  .sc (.int .i64 x.field.at_.scope), .sc (.string x.field.at_.group), .sc (.string x.field.at_.name), .sc (.int .i64 x.field.kind), .sc (.string x.field.deft), .row (x.field.cases.map strD), .sc (.int .i64 x.field.worth), .row (x.forth.map pairD), .row (x.back.map pairD)]
def edgeC (e : EdgeD) : List D := .sc (.int .i64 e.id.r) :: .sc (.int .i64 e.id.n) :: .sc (.int .i64 e.parent.r) :: .sc (.int .i64 e.parent.n) :: lensC e.lens
def eD (e : EdgeD) : D := .agg (edgeC e)
def nodeC (n : NodeD) : List D := .sc (.int .i64 n.edge.id.r) :: .sc (.int .i64 n.edge.id.n) :: .sc (.int .i64 n.edge.parent.r) :: .sc (.int .i64 n.edge.parent.n) :: 
  [.sc (.int .i64 n.edge.lens.kind), .sc (.int .i64 n.edge.lens.at_.scope), .sc (.string n.edge.lens.at_.group), .sc (.string n.edge.lens.at_.name), .sc (.string n.edge.lens.name), .sc (.string n.edge.lens.other), .sc (.int .i64 n.edge.lens.factor),
  .sc (.int .i64 n.edge.lens.field.at_.scope), .sc (.string n.edge.lens.field.at_.group), .sc (.string n.edge.lens.field.at_.name), .sc (.int .i64 n.edge.lens.field.kind), .sc (.string n.edge.lens.field.deft), .row (n.edge.lens.field.cases.map strD), .sc (.int .i64 n.edge.lens.field.worth), .row (n.edge.lens.forth.map pairD), .row (n.edge.lens.back.map pairD),
  .sc (.int .i64 n.state), .row (n.schema.map fD), .sc (.int .i64 n.depth)]
def nD (n : NodeD) : D := .agg (nodeC n)
theorem lD_cells (x : LensD) : lD x = .agg (lensC x) := rfl
def noEdge : EdgeD := ⟨noTag, noTag, noLens⟩
def noNode : NodeD := ⟨noEdge, 0, [], 0⟩

theorem tD_inj {a b : TagD} (h : tD a = tD b) : a = b := by
  obtain ⟨a1, a2⟩ := a
  obtain ⟨b1, b2⟩ := b
  simp [tD] at h
  simp [h]
theorem fst_map {α β : Type} {f : α → D} {g : β → D} {l : List (α × β)} : ∀ p ∈ l.map (fun p => (f p.1, g p.2)), ∃ t, p.1 = f t := by
  intro p hp
  obtain ⟨q, _, rfl⟩ := List.mem_map.1 hp
  exact ⟨q.1, rfl⟩

/-- A list of pairs, as a map. -/
def findT {β : Type} (k : TagD) : List (TagD × β) → Option β
  | [] => none
  | p :: l => if k = p.1 then some p.2 else findT k l
def putT {β : Type} (k : TagD) (v : β) : List (TagD × β) → List (TagD × β)
  | [] => [(k, v)]
  | p :: l => if k = p.1 then (k, v) :: l else p :: putT k v l
theorem findT_map {β : Type} {g : β → D} (k : TagD) : ∀ (l : List (TagD × β)) (i : Nat), (findD (tD k) (l.map fun p => (tD p.1, g p.2)) i).map (·.2) = (findT k l).map g
  | [], _ => rfl
  | p :: l, i => by
    simp only [List.map_cons, findD, findT]
    by_cases e : k = p.1
    · rw [if_pos e, if_pos (by rw [e])]; rfl
    · rw [if_neg e, if_neg (fun h => e (tD_inj h))]; exact findT_map k l (i + 1)
theorem findT_some {β : Type} {g : β → D} (k : TagD) : ∀ (l : List (TagD × β)) (i : Nat), (findD (tD k) (l.map fun p => (tD p.1, g p.2)) i).isSome = (findT k l).isSome := by
  intro l i
  have := findT_map (g := g) k l i
  cases h1 : findD (tD k) (l.map fun p => (tD p.1, g p.2)) i <;> cases h2 : findT k l <;> simp [h1, h2] at this ⊢
theorem putT_map {β : Type} {g : β → D} (k : TagD) (v : β) : ∀ (l : List (TagD × β)), putD (tD k) (g v) (l.map fun p => (tD p.1, g p.2)) = (putT k v l).map fun p => (tD p.1, g p.2)
  | [] => rfl
  | p :: l => by
    simp only [List.map_cons, putD, putT]
    by_cases e : k = p.1
    · rw [if_pos e, if_pos (by rw [e])]; rfl
    · rw [if_neg e, if_neg (fun h => e (tD_inj h)), List.map_cons, putT_map k v l]

/-! ### What the chapter says -/
def tagB (t : TagD) : Bool := decide (1 ≤ t.r) && decide (t.r ≤ 6) && decide (1 ≤ t.n) && decide (t.n ≤ 1099511627776)
def lessT (a b : TagD) : Bool := if a.r = b.r then decide (a.n < b.n) else decide (a.r < b.r)
def edgeB (e : EdgeD) : Bool := tagB e.id && (decide (e.parent = noTag) || (tagB e.parent && !decide (e.parent = e.id))) && (decide (1 ≤ e.lens.kind) && decide (e.lens.kind ≤ 8) && rightL e.lens)
def okE (e : EdgeD) : Prop := okX e.lens
/-- The schema at the root. -/
def rootS : List FieldD := [⟨⟨0, noB, ⟨#[99, 111, 117, 112, 111, 110]⟩⟩, 2, noB, [], 0⟩, ⟨⟨1, noB, ⟨#[110, 111, 116, 101]⟩⟩, 2, noB, [], 0⟩, ⟨⟨1, noB, ⟨#[113, 116, 121]⟩⟩, 1, noB, [], 1⟩, ⟨⟨1, noB, ⟨#[115, 105, 122, 101]⟩⟩, 3, ⟨#[109, 101, 100, 105, 117, 109]⟩, [⟨#[115, 109, 97, 108, 108]⟩, ⟨#[109, 101, 100, 105, 117, 109]⟩, ⟨#[108, 97, 114, 103, 101]⟩], 0⟩, ⟨⟨1, noB, ⟨#[116, 97, 103, 115]⟩⟩, 4, noB, [], 0⟩]
/-- A tag's edge. -/
def edgeOf (E : List EdgeD) (id : TagD) : Option EdgeD := E.find? fun e => decide (e.id = id)
/-- What comes of a tag whose parent came to r. -/
def stepC (r : Int × List FieldD × Int) (x : LensD) : Int × List FieldD × Int :=
  if r.1 = 2 then (if (applyS r.2.1 x).2 = 0 then (2, (applyS r.2.1 x).1, r.2.2 + 1) else (3, [], 0)) else if r.1 = 3 then (3, [], 0) else (1, [], 0)
/-- What comes of a tag: its state, its schema, how deep it is. -/
def comes : Nat → List EdgeD → TagD → Int × List FieldD × Int
  | 0, _, _ => (1, [], 0)
  | n + 1, E, id => if id = noTag then (2, rootS, 0) else match edgeOf E id with
    | none => (0, [], 0)
    | some e => stepC (comes n E e.parent) e.lens
def pend (e : EdgeD) : NodeD := ⟨e, 1, [], 0⟩
def nodeOf (E : List EdgeD) (e : EdgeD) : NodeD := let r := comes (E.length + 1) E e.id; ⟨e, r.1, r.2.1, r.2.2⟩
def atT (l : List (TagD × NodeD)) (id : TagD) : NodeD := if id = noTag then ⟨noEdge, 2, rootS, 0⟩ else (findT id l).getD noNode
def nodesOf (E : List EdgeD) : List (TagD × NodeD) := E.map fun e => (e.id, nodeOf E e)
/-- The cells of a map from tags to nodes. -/
def ents (l : List (TagD × NodeD)) : List (D × D) := l.map fun p => (tD p.1, nD p.2)
theorem look_node (l : List (TagD × NodeD)) (k : TagD) : ((findD (tD k) (ents l) 0).map (·.2)).getD (nD noNode) = nD ((findT k l).getD noNode) := by
  unfold ents
  rw [findT_map (g := nD)]
  cases findT k l <;> rfl
theorem look_found (l : List (TagD × NodeD)) (k : TagD) : (findD (tD k) (ents l) 0).isSome = (findT k l).isSome := findT_some (g := nD) k l 0
theorem ents_keys (l : List (TagD × NodeD)) : ∀ p ∈ ents l, ∃ t : TagD, p.1 = tD t := fst_map
theorem ents_len (l : List (TagD × NodeD)) : (ents l).length = l.length := by simp [ents]
theorem ents_put (l : List (TagD × NodeD)) (k : TagD) (n : NodeD) : putD (tD k) (nD n) (ents l) = ents (putT k n l) := putT_map (g := nD) k n l
theorem at_root {l : List (TagD × NodeD)} {id : TagD} (h : id = noTag) : atT l id = ⟨noEdge, 2, rootS, 0⟩ := if_pos h
theorem at_other {l : List (TagD × NodeD)} {id : TagD} (h : ¬ id = noTag) : atT l id = (findT id l).getD noNode := if_neg h
end Go.Vm
end
section
namespace Go.Vm
set_option linter.unusedVariables false
set_option linter.unusedSimpArgs false

abbrev Came := Int × List FieldD × Int
def doneB (r : Came) : Bool := decide (r.1 = 2) || decide (r.1 = 3)
theorem step_done {r : Came} {x : LensD} (h : doneB (stepC r x) = true) : doneB r = true := by
  unfold stepC at h
  split at h
  · rename_i h2; simp [doneB, h2]
  · split at h
    · rename_i h3; simp [doneB, h3]
    · simp [doneB] at h
theorem step_of_done {r : Came} {x : LensD} (h : doneB r = true) : doneB (stepC r x) = true := by
  unfold stepC
  simp only [doneB, Bool.or_eq_true, decide_eq_true_eq] at h
  split
  · split <;> simp [doneB]
  · rename_i h2
    rw [if_pos (h.resolve_left h2)]; simp [doneB]
theorem comes_succ {n : Nat} {E : List EdgeD} {id : TagD} {e : EdgeD} (h0 : ¬ id = noTag) (he : edgeOf E id = some e) : comes (n + 1) E id = stepC (comes n E e.parent) e.lens := by
  simp only [comes, if_neg h0, he]
theorem comes_none {n : Nat} {E : List EdgeD} {id : TagD} (h0 : ¬ id = noTag) (he : edgeOf E id = none) : comes (n + 1) E id = (0, [], 0) := by
  simp only [comes, if_neg h0, he]
theorem comes_root {n : Nat} {E : List EdgeD} : comes (n + 1) E noTag = (2, rootS, 0) := by simp [comes]
theorem comes_mono {E : List EdgeD} : ∀ {n : Nat} {id : TagD}, doneB (comes n E id) = true → comes (n + 1) E id = comes n E id
  | 0, id, h => by simp [comes, doneB] at h
  | n + 1, id, h => by
    by_cases h0 : id = noTag
    · subst h0; rw [comes_root, comes_root]
    · cases he : edgeOf E id with
      | none => rw [comes_none h0 he, comes_none h0 he]
      | some e =>
        rw [comes_succ h0 he, comes_succ (n := n) h0 he]
        rw [comes_succ h0 he] at h
        rw [comes_mono (step_done h)]
theorem comes_more {E : List EdgeD} {n : Nat} {id : TagD} (h : doneB (comes n E id) = true) : ∀ k, comes (n + k) E id = comes n E id
  | 0 => rfl
  | k + 1 => by
    have := comes_more h k
    rw [← Nat.add_assoc, comes_mono (by rw [this]; exact h), this]
def cnt (E : List EdgeD) (n : Nat) : Nat := E.countP fun e => doneB (comes n E e.id)
theorem countP_imp {α : Type} {p q : α → Bool} : ∀ {l : List α}, (∀ a ∈ l, p a = true → q a = true) → l.countP p = l.countP q → ∀ a ∈ l, q a = true → p a = true
  | [], _, _, a, ha, _ => by cases ha
  | b :: l, hi, hc, a, ha, hq => by
    have hle : l.countP p ≤ l.countP q := List.countP_mono_left fun a ha => hi a (List.mem_cons_of_mem _ ha)
    have hb := hi b (List.mem_cons_self ..)
    simp only [List.countP_cons] at hc
    rcases List.mem_cons.1 ha with rfl | ha
    · cases hp : p a with
      | true => rfl
      | false => rw [hp, hq] at hc; simp at hc; omega
    · refine countP_imp (fun a ha => hi a (List.mem_cons_of_mem _ ha)) ?_ a ha hq
      cases hp : p b with
      | true => rw [hp, hb hp] at hc; simpa using hc
      | false =>
        cases hq2 : q b with
        | true => rw [hp, hq2] at hc; simp at hc; omega
        | false => rw [hp, hq2] at hc; simpa using hc
theorem edge_mem {E : List EdgeD} {id : TagD} {e : EdgeD} (h : edgeOf E id = some e) : e ∈ E ∧ e.id = id := by
  unfold edgeOf at h
  exact ⟨List.mem_of_find?_eq_some h, by simpa using List.find?_some h⟩
/-- Once a round brings nothing new, no later one does. -/
theorem cnt_still {E : List EdgeD} {n : Nat} (h : cnt E (n + 2) = cnt E (n + 1)) : ∀ k id, doneB (comes (n + 1 + k) E id) = true → doneB (comes (n + 1) E id) = true := by
  have hstep : ∀ id, doneB (comes (n + 2) E id) = true → doneB (comes (n + 1) E id) = true := by
    intro id hd
    by_cases h0 : id = noTag
    · subst h0; rw [comes_root]; rfl
    · cases he : edgeOf E id with
      | none => rw [comes_none h0 he] at hd; simp [doneB] at hd
      | some e =>
        obtain ⟨hm, rfl⟩ := edge_mem he
        exact countP_imp (p := fun e : EdgeD => doneB (comes (n + 1) E e.id)) (q := fun e : EdgeD => doneB (comes (n + 2) E e.id)) (fun a _ ha => by rw [comes_mono ha]; exact ha) h.symm e hm hd
  intro k
  induction k with
  | zero => intro id h; exact h
  | succ k ih =>
    intro id hd
    by_cases h0 : id = noTag
    · subst h0; rw [comes_root]; rfl
    · cases he : edgeOf E id with
      | none => rw [show n + 1 + (k + 1) = (n + 1 + k) + 1 by omega, comes_none h0 he] at hd; simp [doneB] at hd
      | some e =>
        rw [show n + 1 + (k + 1) = (n + 1 + k) + 1 by omega, comes_succ h0 he] at hd
        have := ih e.parent (step_done hd)
        refine hstep id ?_
        rw [comes_succ h0 he]
        exact step_of_done this
theorem cnt_le (E : List EdgeD) (n : Nat) : cnt E n ≤ E.length := List.countP_le_length
theorem cnt_mono (E : List EdgeD) (n : Nat) : cnt E n ≤ cnt E (n + 1) := List.countP_mono_left fun e _ h => by rw [comes_mono h]; exact h
/-- What comes of a tag at all comes within as many rounds as there are edges, and one. -/
theorem comes_full {E : List EdgeD} {k : Nat} {id : TagD} (h : doneB (comes k E id) = true) : comes (E.length + 1) E id = comes k E id := by
  have key : ∃ n, n ≤ E.length ∧ cnt E (n + 2) = cnt E (n + 1) := by
    apply Classical.byContradiction
    intro hno
    have grow : ∀ n, n ≤ E.length + 1 → n ≤ cnt E (n + 1) := by
      intro n
      induction n with
      | zero => intro _; exact Nat.zero_le _
      | succ n ih =>
        intro hn
        have h1 := ih (by omega)
        have h2 := cnt_mono E (n + 1)
        have h3 : cnt E (n + 2) ≠ cnt E (n + 1) := fun e => hno ⟨n, by omega, e⟩
        show n + 1 ≤ cnt E (n + 2)
        have h4 : cnt E (n + 1) ≤ cnt E (n + 2) := h2
        omega
    have := grow (E.length + 1) (Nat.le_refl _)
    have := cnt_le E (E.length + 1 + 1)
    omega
  obtain ⟨n, hn, hc⟩ := key
  have hst := cnt_still hc
  rcases Nat.le_total k (n + 1) with hk | hk
  · have e1 := comes_more h (E.length + 1 - k)
    rwa [show k + (E.length + 1 - k) = E.length + 1 by omega] at e1
  · have h1 := hst (k - (n + 1)) id (by rw [show n + 1 + (k - (n + 1)) = k by omega]; exact h)
    have e1 := comes_more h1 (k - (n + 1))
    have e2 := comes_more h1 (E.length + 1 - (n + 1))
    rw [show n + 1 + (k - (n + 1)) = k by omega] at e1
    rw [show n + 1 + (E.length + 1 - (n + 1)) = E.length + 1 by omega] at e2
    rw [e1, e2]
/-- What comes of a tag. -/
def cameOf (E : List EdgeD) (id : TagD) : Came := comes (E.length + 1) E id
theorem came_step {E : List EdgeD} {id : TagD} {e : EdgeD} (h0 : ¬ id = noTag) (he : edgeOf E id = some e) : cameOf E id = stepC (cameOf E e.parent) e.lens := by
  unfold cameOf
  cases hd : doneB (comes (E.length + 1) E e.parent) with
  | true =>
    have : doneB (comes (E.length + 2) E id) = true := by rw [comes_succ h0 he]; exact step_of_done hd
    rw [comes_full this, comes_succ h0 he]
  | false =>
    rw [comes_succ h0 he]
    have h1 : doneB (comes E.length E e.parent) = false := by
      cases h2 : doneB (comes E.length E e.parent) with
      | false => rfl
      | true => rw [comes_mono h2] at hd; rw [hd] at h2; cases h2
    have nd : ∀ r : Came, doneB r = false → stepC r e.lens = (1, [], 0) := by
      intro r hr
      simp only [doneB, Bool.or_eq_false_iff, decide_eq_false_iff_not] at hr
      unfold stepC
      rw [if_neg hr.1, if_neg hr.2]
    rw [nd _ h1, nd _ hd]
theorem came_root {E : List EdgeD} : cameOf E noTag = (2, rootS, 0) := comes_root
theorem came_none {E : List EdgeD} {id : TagD} (h0 : ¬ id = noTag) (he : edgeOf E id = none) : cameOf E id = (0, [], 0) := comes_none h0 he

/-! ### Entries that are settled by and by -/
/-- Edges whose tags are unlike, and none the root's; their lenses can be gone through. -/
structure Good (E : List EdgeD) : Prop where
  ok : ∀ e ∈ E, okX e.lens
  tag : ∀ e ∈ E, ¬ e.id = noTag
  uniq : E.Pairwise fun a b => ¬ a.id = b.id
theorem edge_of_mem {E : List EdgeD} : E.Pairwise (fun a b => ¬ a.id = b.id) → ∀ {e : EdgeD}, e ∈ E → edgeOf E e.id = some e
  | .nil, e, h => by cases h
  | .cons (a := a) (l := l) h1 h2, e, h => by
    unfold edgeOf
    rcases List.mem_cons.1 h with rfl | h
    · simp
    · rw [List.find?_cons_of_neg (by simpa using h1 e h)]
      exact edge_of_mem h2 h
/-- Each entry is an edge's, and settled or not yet. -/
structure Half (E : List EdgeD) (l : List (TagD × NodeD)) : Prop where
  edges : l.map (fun p => p.2.edge) = E
  each : ∀ p ∈ l, p.1 = p.2.edge.id ∧ (p.2 = nodeOf E p.2.edge ∨ p.2 = pend p.2.edge)
theorem findT_mem {β : Type} {k : TagD} : ∀ {l : List (TagD × β)} {n : β}, findT k l = some n → (k, n) ∈ l
  | [], n, h => by cases h
  | p :: l, n, h => by
    unfold findT at h
    split at h
    · rename_i e; injection h with h; subst h e; exact List.mem_cons_self ..
    · exact List.mem_cons_of_mem _ (findT_mem h)
theorem edge_find {l : List (TagD × NodeD)} {k : TagD} : (∀ p ∈ l, p.1 = p.2.edge.id) → edgeOf (l.map fun p => p.2.edge) k = (findT k l).map (·.edge) := by
  induction l with
  | nil => intro _; rfl
  | cons p l ih =>
    intro h
    have hp := h p (List.mem_cons_self ..)
    unfold edgeOf findT
    simp only [List.map_cons]
    by_cases e : k = p.1
    · rw [if_pos e, List.find?_cons_of_pos (by simp [e, hp])]; rfl
    · rw [if_neg e, List.find?_cons_of_neg (by simp only [decide_eq_true_eq]; intro e2; exact e (by rw [hp, e2]))]
      exact ih fun q hq => h q (List.mem_cons_of_mem _ hq)
theorem Half.edge {E : List EdgeD} {l : List (TagD × NodeD)} (h : Half E l) (k : TagD) : edgeOf E k = (findT k l).map (·.edge) := by
  have := edge_find (k := k) fun p hp => (h.each p hp).1
  rwa [h.edges] at this
theorem node_came {E : List EdgeD} {e : EdgeD} : (nodeOf E e).state = (cameOf E e.id).1 ∧ (nodeOf E e).schema = (cameOf E e.id).2.1 ∧ (nodeOf E e).depth = (cameOf E e.id).2.2 ∧ (nodeOf E e).edge = e := ⟨rfl, rfl, rfl, rfl⟩
/-- What is known of a settled tag is what comes of it. -/
theorem Half.at {E : List EdgeD} {l : List (TagD × NodeD)} (h : Half E l) {id : TagD} (hs : (atT l id).state = 2 ∨ (atT l id).state = 3) : (atT l id).state = (cameOf E id).1 ∧ (atT l id).schema = (cameOf E id).2.1 ∧ (atT l id).depth = (cameOf E id).2.2 := by
  by_cases h0 : id = noTag
  · subst h0; rw [at_root rfl, came_root]; exact ⟨rfl, rfl, rfl⟩
  · rw [at_other h0] at hs ⊢
    cases hf : findT id l with
    | none => rw [hf] at hs; simp [noNode] at hs
    | some n =>
      rw [hf] at hs
      simp only [Option.getD_some] at hs ⊢
      obtain ⟨h1, h2⟩ := h.each _ (findT_mem hf)
      simp only at h1 h2
      rcases h2 with h2 | h2
      · rw [h2, h1]; exact ⟨rfl, rfl, rfl⟩
      · rw [h2] at hs; simp [pend] at hs
theorem came_undone {E : List EdgeD} {e : EdgeD} (hg : Good E) (he : e ∈ E) (h : doneB (cameOf E e.id) = false) : cameOf E e.id = (1, [], 0) := by
  rw [came_step (hg.tag e he) (edge_of_mem hg.uniq he)] at h ⊢
  cases hd : doneB (cameOf E e.parent) with
  | true => rw [step_of_done hd] at h; cases h
  | false =>
    simp only [doneB, Bool.or_eq_false_iff, decide_eq_false_iff_not] at hd
    unfold stepC
    rw [if_neg hd.1, if_neg hd.2]
theorem node_pend {E : List EdgeD} {e : EdgeD} (hg : Good E) (he : e ∈ E) (h : doneB (cameOf E e.id) = false) : nodeOf E e = pend e := by
  have := came_undone hg he h
  unfold nodeOf pend
  show NodeD.mk e (cameOf E e.id).1 (cameOf E e.id).2.1 (cameOf E e.id).2.2 = _
  rw [this]
/-- An entry that is pending as yet. -/
theorem Half.pend {E : List EdgeD} {l : List (TagD × NodeD)} (hg : Good E) (h : Half E l) {p : TagD × NodeD} (hp : p ∈ l) (hs : p.2.state = 1) : p.2 = Vm.pend p.2.edge ∧ p.1 = p.2.edge.id ∧ p.2.edge ∈ E := by
  obtain ⟨h1, h2⟩ := h.each p hp
  have hm : p.2.edge ∈ E := by rw [← h.edges]; exact List.mem_map.2 ⟨p, hp, rfl⟩
  refine ⟨?_, h1, hm⟩
  rcases h2 with h2 | h2
  · rw [h2] at hs
    have : doneB (cameOf E p.2.edge.id) = false := by
      have hs : (cameOf E p.2.edge.id).1 = 1 := hs
      simp [doneB, hs]
    rw [h2]; exact node_pend hg hm this
  · exact h2
/-- Its parent is settled by now: so is it. -/
theorem node_next {E : List EdgeD} {e : EdgeD} (hg : Good E) (he : e ∈ E) : nodeOf E e = ⟨e, (stepC (cameOf E e.parent) e.lens).1, (stepC (cameOf E e.parent) e.lens).2.1, (stepC (cameOf E e.parent) e.lens).2.2⟩ := by
  rw [← came_step (hg.tag e he) (edge_of_mem hg.uniq he)]; rfl
theorem put_at {β : Type} {k : TagD} {v : β} : ∀ {l : List (TagD × β)} {i : Nat} {q : TagD × β}, l[i]? = some q → q.1 = k → (∀ j p, j < i → l[j]? = some p → ¬ p.1 = k) → putT k v l = l.set i (k, v)
  | [], i, q, h, _, _ => by simp at h
  | p :: l, 0, q, h, hk, _ => by
    simp at h; subst h
    unfold putT; rw [if_pos hk.symm]; rfl
  | p :: l, i + 1, q, h, hk, hn => by
    unfold putT
    rw [if_neg (fun e => hn 0 p (Nat.succ_pos _) rfl e.symm)]
    rw [put_at (l := l) (i := i) (by simpa using h) hk (fun j p hj hp => hn (j + 1) p (by omega) (by simpa using hp))]
    rfl
theorem Half.uniq {E : List EdgeD} {l : List (TagD × NodeD)} (hg : Good E) (h : Half E l) {i j : Nat} {p q : TagD × NodeD} (hp : l[i]? = some p) (hq : l[j]? = some q) (hlt : i < j) : ¬ p.1 = q.1 := by
  have h1 : E[i]? = some p.2.edge := by rw [← h.edges, List.getElem?_map, hp]; rfl
  have h2 : E[j]? = some q.2.edge := by rw [← h.edges, List.getElem?_map, hq]; rfl
  obtain ⟨hi, e1⟩ := List.getElem?_eq_some_iff.1 h1
  obtain ⟨hj, e2⟩ := List.getElem?_eq_some_iff.1 h2
  have := (List.pairwise_iff_getElem.1 hg.uniq) i j hi hj hlt
  rw [e1, e2] at this
  rw [(h.each p (List.mem_of_getElem? hp)).1, (h.each q (List.mem_of_getElem? hq)).1]
  exact this
theorem set_self {α : Type} : ∀ {l : List α} {i : Nat} {x : α}, l[i]? = some x → l.set i x = l
  | [], i, x, h => by simp at h
  | y :: l, 0, x, h => by simp at h; subst h; rfl
  | y :: l, i + 1, x, h => by simp only [List.set_cons_succ]; rw [set_self (l := l) (by simpa using h)]
theorem Half.put {E : List EdgeD} {l : List (TagD × NodeD)} (hg : Good E) (h : Half E l) {i : Nat} {q : TagD × NodeD} (hq : l[i]? = some q) : putT q.1 (nodeOf E q.2.edge) l = l.set i (q.1, nodeOf E q.2.edge) ∧ Half E (putT q.1 (nodeOf E q.2.edge) l) := by
  have e := put_at (v := nodeOf E q.2.edge) hq rfl (fun j p hj hp => h.uniq hg hp hq hj)
  refine ⟨e, ?_⟩
  rw [e]
  have hi := (List.getElem?_eq_some_iff.1 hq).1
  constructor
  · rw [List.map_set, ← h.edges]
    show (l.map fun p => p.2.edge).set i q.2.edge = _
    exact set_self (by rw [List.getElem?_map, hq]; rfl)
  · intro p hp
    rcases List.mem_or_eq_of_mem_set hp with hp | rfl
    · exact h.each p hp
    · exact ⟨(h.each q (List.mem_of_getElem? hq)).1, .inl rfl⟩
/-- How many are pending. -/
def pends (l : List (TagD × NodeD)) : Nat := l.countP fun p => decide (p.2.state = 1)
theorem pends_put {l : List (TagD × NodeD)} {i : Nat} {q : TagD × NodeD} {n : NodeD} (hq : l[i]? = some q) (hs : q.2.state = 1) (hn : ¬ n.state = 1) : pends (l.set i (q.1, n)) < pends l := by
  have hi := (List.getElem?_eq_some_iff.1 hq).1
  have hqe := (List.getElem?_eq_some_iff.1 hq).2
  unfold pends
  rw [List.countP_set hi, hqe]
  have : 0 < l.countP fun p => decide (p.2.state = 1) := List.countP_pos_iff.2 ⟨q, List.mem_of_getElem? hq, by simpa using hs⟩
  simp [hs, hn]; omega
/-- Nothing is to be done at an entry. -/
def quiet (l : List (TagD × NodeD)) (i : Nat) : Prop := ∀ p, l[i]? = some p → ¬ p.2.state = 1 ∨ (¬ (atT l p.2.edge.parent).state = 2 ∧ ¬ (atT l p.2.edge.parent).state = 3)
/-- Once nothing is to be done, each entry is what comes of its edge. -/
theorem Half.over {E : List EdgeD} {l : List (TagD × NodeD)} (hg : Good E) (h : Half E l) (hq : ∀ i, i < l.length → quiet l i) : l = nodesOf E := by
  have key : ∀ n id nd, doneB (comes n E id) = true → ¬ id = noTag → findT id l = some nd → nd = nodeOf E nd.edge := by
    intro n
    induction n with
    | zero => intro id nd hd; simp [comes, doneB] at hd
    | succ n ih =>
      intro id nd hd h0 hf
      have hm := findT_mem hf
      obtain ⟨h1, h2⟩ := h.each _ hm
      simp only at h1 h2
      have he : edgeOf E id = some nd.edge := by rw [h.edge, hf]; rfl
      rcases h2 with h2 | h2
      · exact h2
      · exfalso
        rw [comes_succ h0 he] at hd
        have hd := step_done hd
        obtain ⟨i, hi⟩ := List.getElem?_of_mem hm
        rcases hq i (List.getElem?_eq_some_iff.1 hi).1 _ hi with h3 | ⟨h3, h4⟩
        · simp only at h3; rw [h2] at h3; exact h3 rfl
        · simp only at h3 h4
          by_cases hp : nd.edge.parent = noTag
          · rw [at_root hp] at h3; exact h3 rfl
          · cases hfp : findT nd.edge.parent l with
            | none =>
              have he2 : edgeOf E nd.edge.parent = none := by rw [h.edge, hfp]; rfl
              cases n with
              | zero => simp [comes, doneB] at hd
              | succ n => rw [comes_none hp he2] at hd; simp [doneB] at hd
            | some np =>
              have hnp := ih nd.edge.parent np hd hp hfp
              have h5 := (h.each _ (findT_mem hfp)).1
              simp only at h5
              have hc : cameOf E nd.edge.parent = comes n E nd.edge.parent := comes_full hd
              have hst : np.state = (cameOf E nd.edge.parent).1 := by rw [h5, hnp]; rfl
              rw [at_other hp, hfp] at h3 h4
              simp only [Option.getD_some] at h3 h4
              rw [hst, hc] at h3 h4
              simp only [doneB, Bool.or_eq_true, decide_eq_true_eq] at hd
              exact hd.elim h3 h4
  have each : ∀ p ∈ l, p = (p.2.edge.id, nodeOf E p.2.edge) := by
    intro p hp
    obtain ⟨h1, h2⟩ := h.each p hp
    have hm : p.2.edge ∈ E := by rw [← h.edges]; exact List.mem_map.2 ⟨p, hp, rfl⟩
    have h3 : p.2 = nodeOf E p.2.edge := by
      rcases h2 with h2 | h2
      · exact h2
      · cases hd : doneB (cameOf E p.2.edge.id) with
        | false => rw [node_pend hg hm hd]; exact h2
        | true =>
          have hf : findT p.1 l = some p.2 := by
            have he := h.edge p.1
            rw [h1, edge_of_mem hg.uniq hm] at he
            cases hf : findT p.2.edge.id l with
            | none => rw [hf] at he; cases he
            | some n =>
              rw [h1, hf]
              obtain ⟨i, hi⟩ := List.getElem?_of_mem hp
              obtain ⟨j, hj⟩ := List.getElem?_of_mem (findT_mem hf)
              rcases Nat.lt_trichotomy i j with hij | hij | hij
              · exact absurd (by simpa using h1) (h.uniq hg hi hj hij)
              · subst hij; rw [hi] at hj; injection hj with hj; rw [hj]
              · exact absurd (by simpa using h1.symm) (h.uniq hg hj hi hij)
          exact key _ p.1 p.2 (by rw [h1]; exact hd) (by rw [h1]; exact hg.tag _ hm) hf
    exact Prod.ext h1 h3
  have e : nodesOf E = l.map fun p => (p.2.edge.id, nodeOf E p.2.edge) := by
    have := congrArg (List.map fun e : EdgeD => (e.id, nodeOf E e)) h.edges
    rw [List.map_map] at this
    exact this.symm
  rw [e]
  conv => lhs; rw [← List.map_id l]
  exact List.map_congr_left fun p hp => each p hp

/-! ### For the walk -/
theorem ents_at {l : List (TagD × NodeD)} {i : Nat} {p : D × D} (h : (ents l)[i]? = some p) : ∃ q, l[i]? = some q ∧ p = (tD q.1, nD q.2) := by
  unfold ents at h
  rw [List.getElem?_map] at h
  obtain ⟨q, h1, h2⟩ := Option.map_eq_some_iff.1 h
  exact ⟨q, h1, h2.symm⟩
theorem okL_root : okL rootS := by
  refine ⟨by decide, ?_⟩
  intro f hf
  simp only [rootS, List.mem_cons, List.not_mem_nil, or_false] at hf
  rcases hf with rfl | rfl | rfl | rfl | rfl <;> decide
theorem okL_comes {E : List EdgeD} (hok : ∀ e ∈ E, okX e.lens) : ∀ n id, okL (comes n E id).2.1
  | 0, id => okL_nil
  | n + 1, id => by
    by_cases h0 : id = noTag
    · subst h0; rw [comes_root]; exact okL_root
    · cases he : edgeOf E id with
      | none => rw [comes_none h0 he]; exact okL_nil
      | some e =>
        rw [comes_succ h0 he]
        unfold stepC
        split
        · split
          · exact okL_apply (okL_comes hok n e.parent) (hok e (edge_mem he).1)
          · exact okL_nil
        · split <;> exact okL_nil
/-- How many entries have not come in a range over a map. -/
def unseen (n : Nat) (seen : List Nat) : Nat := ((List.range n).filter fun i => !seen.contains i).length
theorem unseen_next {n i : Nat} {seen : List Nat} (hi : i < n) (hs : i ∉ seen) : unseen n (seen ++ [i]) < unseen n seen := by
  unfold unseen
  have e : ((List.range n).filter fun j => !(seen ++ [i]).contains j) = ((List.range n).filter fun j => !seen.contains j).filter fun j => !(j == i) := by
    rw [List.filter_filter]
    congr 1
    funext j
    simp only [List.contains_append, Bool.not_or]
    rw [Bool.and_comm]
    congr 1
    simp
    rw [Bool.eq_iff_iff]; simp
  rw [e]
  refine List.length_filter_lt_length_iff_exists.2 ⟨i, List.mem_filter.2 ⟨List.mem_range.2 hi, by simpa using hs⟩, by simp⟩
theorem nodes_half {E : List EdgeD} {e : EdgeD} (hg : Good (E ++ [e])) : Half (E ++ [e]) (nodesOf E ++ [(e.id, pend e)]) := by
  have hgE : Good E := ⟨fun x hx => hg.ok x (List.mem_append_left _ hx), fun x hx => hg.tag x (List.mem_append_left _ hx), (List.pairwise_append.1 hg.uniq).1⟩
  have more : ∀ n id, doneB (comes n E id) = true → comes n (E ++ [e]) id = comes n E id := by
    intro n
    induction n with
    | zero => intro id h; rfl
    | succ n ih =>
      intro id h
      by_cases h0 : id = noTag
      · subst h0; rw [comes_root, comes_root]
      · cases he : edgeOf E id with
        | none => rw [comes_none h0 he] at h; simp [doneB] at h
        | some f =>
          have he2 : edgeOf (E ++ [e]) id = some f := by unfold edgeOf at *; rw [List.find?_append, he]; rfl
          rw [comes_succ h0 he] at h
          rw [comes_succ h0 he, comes_succ h0 he2, ih _ (step_done h)]
  constructor
  · unfold nodesOf
    rw [List.map_append, List.map_map]
    show E.map (fun f => f) ++ [e] = _
    rw [List.map_id']
  · intro p hp
    rcases List.mem_append.1 hp with hp | hp
    · obtain ⟨f, hf, rfl⟩ := List.mem_map.1 hp
      refine ⟨rfl, ?_⟩
      show nodeOf E f = nodeOf (E ++ [e]) f ∨ nodeOf E f = pend f
      cases hd : doneB (cameOf E f.id) with
      | true =>
        left
        have h1 : cameOf (E ++ [e]) f.id = cameOf E f.id := by
          have h2 : comes (E.length + 1) (E ++ [e]) f.id = cameOf E f.id := more _ _ hd
          rw [← h2]
          exact comes_full (by rw [h2]; exact hd)
        show NodeD.mk f (cameOf E f.id).1 (cameOf E f.id).2.1 (cameOf E f.id).2.2 = NodeD.mk f (cameOf (E ++ [e]) f.id).1 (cameOf (E ++ [e]) f.id).2.1 (cameOf (E ++ [e]) f.id).2.2
        rw [h1]
      | false => exact .inr (node_pend hgE hf hd)
    · rw [List.mem_singleton.1 hp]; exact ⟨rfl, .inr rfl⟩
theorem putT_new {β : Type} {k : TagD} {v : β} : ∀ {l : List (TagD × β)}, findT k l = none → putT k v l = l ++ [(k, v)]
  | [], _ => rfl
  | p :: l, h => by
    unfold findT at h
    split at h
    · cases h
    · rename_i e
      unfold putT; rw [if_neg e, putT_new h]; rfl
theorem find_nodes (E : List EdgeD) (k : TagD) : findT k (nodesOf E) = (edgeOf E k).map (nodeOf E) := by
  unfold nodesOf
  generalize nodeOf E = g
  induction E with
  | nil => rfl
  | cons e E ih =>
    simp only [List.map_cons, findT, edgeOf]
    by_cases h : k = e.id
    · rw [if_pos h, List.find?_cons_of_pos (by simp [h])]; rfl
    · rw [if_neg h, List.find?_cons_of_neg (by simp only [decide_eq_true_eq]; exact fun e => h e.symm)]; exact ih
/-- One more edge; the code. -/
def putE (E : List EdgeD) (e : EdgeD) : List EdgeD × Int :=
  if edgeB e = false then (E, 5) else match edgeOf E e.id with
    | some f => if f = e then (E, 7) else (E, 15)
    | none => if 40 ≤ E.length then (E, 9) else (E ++ [e], 0)
theorem edgeOf_none {E : List EdgeD} {k : TagD} (h : edgeOf E k = none) : ∀ f ∈ E, ¬ f.id = k := by
  intro f hf e
  unfold edgeOf at h
  have := List.find?_eq_none.1 h f hf
  simp [e] at this
theorem tag_real {t : TagD} (h : tagB t = true) : ¬ t = noTag := by
  rintro rfl; simp [tagB, noTag] at h
theorem Good.more {E : List EdgeD} {e : EdgeD} (hg : Good E) (hx : okX e.lens) (hb : edgeB e = true) (hn : edgeOf E e.id = none) : Good (E ++ [e]) := by
  have ht : tagB e.id = true := by unfold edgeB at hb; simp only [Bool.and_eq_true] at hb; exact hb.1.1
  refine ⟨fun x hx2 => ?_, fun x hx2 => ?_, List.pairwise_append.2 ⟨hg.uniq, List.pairwise_singleton .., fun a ha b hb => ?_⟩⟩
  · rcases List.mem_append.1 hx2 with h | h
    · exact hg.ok x h
    · rw [List.mem_singleton.1 h]; exact hx
  · rcases List.mem_append.1 hx2 with h | h
    · exact hg.tag x h
    · rw [List.mem_singleton.1 h]; exact tag_real ht
  · rw [List.mem_singleton.1 hb]; exact edgeOf_none hn a ha
theorem Good.put {E : List EdgeD} {e : EdgeD} (hg : Good E) (hx : okX e.lens) : Good (putE E e).1 := by
  unfold putE
  split
  · exact hg
  · rename_i hb
    split
    · split <;> exact hg
    · rename_i hn
      split
      · exact hg
      · exact hg.more hx (by simpa using hb) hn

theorem depth_le {E : List EdgeD} : ∀ n id, 0 ≤ (comes n E id).2.2 ∧ (comes n E id).2.2 ≤ n
  | 0, id => by simp [comes]
  | n + 1, id => by
    by_cases h0 : id = noTag
    · subst h0; rw [comes_root]; simp; omega
    · cases he : edgeOf E id with
      | none => rw [comes_none h0 he]; simp; omega
      | some e =>
        rw [comes_succ h0 he]
        have := depth_le (E := E) n e.parent
        unfold stepC
        split
        · split
          · simp only; omega
          · simp; omega
        · split <;> (simp; omega)
section
variable {E : List EdgeD} {l : List (TagD × NodeD)} {e : EdgeD} {n : NodeD}
theorem Half.dead (hg : Good E) (h : Half E l) (hm : n.edge ∈ E) (hp : n = Vm.pend n.edge) (h3 : (atT l n.edge.parent).state = 3) : nodeOf E n.edge = ⟨n.edge, 3, n.schema, n.depth⟩ := by
  have hs : n.schema = [] := by rw [hp]; rfl
  have hd : n.depth = 0 := by rw [hp]; rfl
  have hat := (h.at (.inr h3)).1
  rw [node_next hg hm, hs, hd]
  unfold stepC
  rw [if_neg (by rw [← hat, h3]; decide), if_pos (by rw [← hat, h3])]
theorem Half.unfit (hg : Good E) (h : Half E l) (hm : n.edge ∈ E) (hp : n = Vm.pend n.edge) (h2 : (atT l n.edge.parent).state = 2) (hc : ¬ (applyS (atT l n.edge.parent).schema n.edge.lens).2 = 0) : nodeOf E n.edge = ⟨n.edge, 3, n.schema, n.depth⟩ := by
  have hs : n.schema = [] := by rw [hp]; rfl
  have hd : n.depth = 0 := by rw [hp]; rfl
  have hat := h.at (.inl h2)
  rw [node_next hg hm, hs, hd]
  unfold stepC
  rw [if_pos (by rw [← hat.1, h2]), if_neg (by rw [← hat.2.1]; exact hc)]
theorem Half.live (hg : Good E) (h : Half E l) (hm : n.edge ∈ E) (h2 : (atT l n.edge.parent).state = 2) (hc : (applyS (atT l n.edge.parent).schema n.edge.lens).2 = 0) : nodeOf E n.edge = ⟨n.edge, 2, (applyS (atT l n.edge.parent).schema n.edge.lens).1, (atT l n.edge.parent).depth + 1⟩ := by
  have hat := h.at (.inl h2)
  rw [node_next hg hm]
  unfold stepC
  rw [if_pos (by rw [← hat.1, h2]), if_pos (by rw [← hat.2.1]; exact hc), hat.2.1, hat.2.2]
end

section
variable {E : List EdgeD} {e f : EdgeD}
theorem put_e5 (h : edgeB e = false) : putE E e = (E, 5) := if_pos h
theorem put_e7 (h : edgeB e = true) (hf : edgeOf E e.id = some f) (hs : f = e) : putE E e = (E, 7) := by unfold putE; rw [if_neg (by rw [h]; simp), hf]; exact if_pos hs
theorem put_e15 (h : edgeB e = true) (hf : edgeOf E e.id = some f) (hs : ¬ f = e) : putE E e = (E, 15) := by unfold putE; rw [if_neg (by rw [h]; simp), hf]; exact if_neg hs
theorem put_e9 (h : edgeB e = true) (hf : edgeOf E e.id = none) (hs : 40 ≤ E.length) : putE E e = (E, 9) := by unfold putE; rw [if_neg (by rw [h]; simp), hf]; exact if_pos hs
theorem put_e0 (h : edgeB e = true) (hf : edgeOf E e.id = none) (hs : ¬ 40 ≤ E.length) : putE E e = (E ++ [e], 0) := by unfold putE; rw [if_neg (by rw [h]; simp), hf]; exact if_neg hs
theorem find_some {k : TagD} (h : (findT k (nodesOf E)).isSome = true) : ∃ f, edgeOf E k = some f ∧ (findT k (nodesOf E)).getD noNode = nodeOf E f ∧ f ∈ E := by
  rw [find_nodes] at h ⊢
  cases hf : edgeOf E k with
  | none => rw [hf] at h; cases h
  | some f => exact ⟨f, rfl, rfl, (edge_mem hf).1⟩
theorem find_miss {k : TagD} (h : (findT k (nodesOf E)).isSome = false) : edgeOf E k = none ∧ findT k (nodesOf E) = none := by
  rw [find_nodes] at h ⊢
  cases hf : edgeOf E k with
  | none => exact ⟨rfl, rfl⟩
  | some f => rw [hf] at h; cases h
theorem nodes_len : (ents (nodesOf E)).length = E.length := by simp [ents, nodesOf]
end
end Go.Vm
end
section
namespace Go.Vm
set_option linter.unusedVariables false
set_option linter.unusedSimpArgs false

theorem lessT_irrefl (a : TagD) : lessT a a = false := by simp [lessT]
theorem lessT_trans {a b c : TagD} (h : lessT a b = true) (k : lessT b c = true) : lessT a c = true := by
  obtain ⟨a1, a2⟩ := a; obtain ⟨b1, b2⟩ := b; obtain ⟨c1, c2⟩ := c
  simp only [lessT] at h k ⊢
  split at h <;> split at k <;> simp only [decide_eq_true_eq] at h k <;> split <;> simp only [decide_eq_true_eq] <;> omega
theorem lessT_total {a b : TagD} (h : lessT a b = false) (k : lessT b a = false) : a = b := by
  obtain ⟨a1, a2⟩ := a; obtain ⟨b1, b2⟩ := b
  simp only [lessT] at h k
  split at h <;> split at k <;> simp only [decide_eq_false_iff_not] at h k <;> simp only [TagD.mk.injEq] <;> omega
theorem lessT_asymm {a b : TagD} (h : lessT a b = true) : lessT b a = false := by
  cases k : lessT b a with
  | false => rfl
  | true => have := lessT_trans h k; rw [lessT_irrefl] at this; cases this
theorem lessT_ntrans {a b c : TagD} (h : lessT a b = false) (k : lessT b c = false) : lessT a c = false := by
  cases hx : lessT a c with
  | false => rfl
  | true =>
    cases h1 : lessT b a with
    | true => have := lessT_trans h1 hx; rw [k] at this; cases this
    | false => obtain rfl := lessT_total h h1; rw [k] at hx; cases hx
def leT (a b : TagD) : Bool := !lessT b a
theorem leT_trans (a b c : TagD) (h : leT a b = true) (k : leT b c = true) : leT a c = true := by
  simp only [leT, Bool.not_eq_true'] at *; exact lessT_ntrans k h
theorem leT_total (a b : TagD) : (leT a b || leT b a) = true := by
  simp only [leT]
  cases h : lessT b a with
  | false => rfl
  | true => rw [lessT_asymm h]; rfl
theorem leT_anti {a b : TagD} (h : leT a b = true) (k : leT b a = true) : a = b := by
  simp only [leT, Bool.not_eq_true'] at *; exact lessT_total k h
/-- Rising tags. -/
def sortT (l : List TagD) : List TagD := l.mergeSort leT
theorem sortT_rises (l : List TagD) : (sortT l).Pairwise fun a b => leT a b = true := List.pairwise_mergeSort leT_trans leT_total l
theorem sortT_perm (l : List TagD) : (sortT l).Perm l := List.mergeSort_perm l leT
theorem rises_one {l l' : List TagD} (h : l.Pairwise fun a b => leT a b = true) (k : l'.Pairwise fun a b => leT a b = true) (hp : l.Perm l') : l = l' :=
  List.Perm.eq_of_pairwise (fun _ _ _ _ h k => leT_anti h k) h k hp
theorem sortT_eq {l l' : List TagD} (h : l.Perm l') : sortT l = sortT l' := rises_one (sortT_rises l) (sortT_rises l') ((sortT_perm l).trans (h.trans (sortT_perm l').symm))
theorem sortT_len (l : List TagD) : (sortT l).length = l.length := (sortT_perm l).length_eq

/-- An edge put where it belongs. -/
def insE (e : EdgeD) : List EdgeD → List EdgeD
  | [] => [e]
  | x :: l => if lessT x.id e.id = true then x :: insE e l else e :: x :: l
def sortE (E : List EdgeD) : List EdgeD := E.foldl (fun l e => insE e l) []
theorem insE_perm (e : EdgeD) : ∀ l, (insE e l).Perm (e :: l)
  | [] => .refl _
  | x :: l => by
    unfold insE
    split
    · exact ((insE_perm e l).cons x).trans (List.Perm.swap e x l)
    · exact .refl _
abbrev risesE (l : List EdgeD) : Prop := l.Pairwise fun a b => leT a.id b.id = true
theorem insE_rises (e : EdgeD) : ∀ {l}, risesE l → risesE (insE e l)
  | [], _ => by simp [insE]
  | x :: l, h => by
    unfold insE
    obtain ⟨h1, h2⟩ := List.pairwise_cons.1 h
    split
    · rename_i hlt
      refine List.pairwise_cons.2 ⟨fun y hy => ?_, insE_rises e h2⟩
      rcases List.mem_cons.1 ((insE_perm e l).mem_iff.1 hy) with rfl | hy
      · simp only [leT]; rw [lessT_asymm hlt]; rfl
      · exact h1 y hy
    · rename_i hlt
      have hle : leT e.id x.id = true := by simp only [leT]; simpa using hlt
      refine List.pairwise_cons.2 ⟨fun y hy => ?_, h⟩
      rcases List.mem_cons.1 hy with rfl | hy
      · exact hle
      · exact leT_trans _ _ _ hle (h1 y hy)
theorem sortE_go (E : List EdgeD) : ∀ l, risesE l → risesE (E.foldl (fun l e => insE e l) l) ∧ (E.foldl (fun l e => insE e l) l).Perm (l ++ E) := by
  induction E with
  | nil => intro l h; exact ⟨h, by simp⟩
  | cons e E ih =>
    intro l h
    obtain ⟨h1, h2⟩ := ih (insE e l) (insE_rises e h)
    refine ⟨h1, h2.trans ?_⟩
    exact ((insE_perm e l).append_right E).trans (by rw [List.cons_append]; exact List.perm_middle.symm)
theorem sortE_rises (E : List EdgeD) : risesE (sortE E) := (sortE_go E [] .nil).1
theorem sortE_perm (E : List EdgeD) : (sortE E).Perm E := by unfold sortE; simpa using (sortE_go E [] .nil).2
theorem sort_keys (E : List EdgeD) : sortT (E.map (·.id)) = (sortE E).map (·.id) :=
  rises_one (sortT_rises _) (List.pairwise_map.2 (sortE_rises E)) ((sortT_perm _).trans ((sortE_perm E).symm.map _))
theorem sort_filter (E : List EdgeD) (p : EdgeD → Bool) : sortT ((E.filter p).map (·.id)) = ((sortE E).filter p).map (·.id) :=
  rises_one (sortT_rises _) (List.pairwise_map.2 ((sortE_rises E).filter p)) ((sortT_perm _).trans (((sortE_perm E).symm.filter p).map _))

/-! ### What is picked out of a map -/
def pick {β : Type} (p : NodeD → Bool) (f : TagD × NodeD → β) (l : List (TagD × NodeD)) (seen : List Nat) : List β := seen.filterMap fun i => (l[i]?).bind fun q => if p q.2 = true then some (f q) else none
theorem pick_yes {β : Type} {p : NodeD → Bool} {f : TagD × NodeD → β} {l : List (TagD × NodeD)} {seen : List Nat} {i : Nat} {q : TagD × NodeD} (hq : l[i]? = some q) (h : p q.2 = true) : pick p f l (seen ++ [i]) = pick p f l seen ++ [f q] := by
  simp [pick, hq, h]
theorem pick_no {β : Type} {p : NodeD → Bool} {f : TagD × NodeD → β} {l : List (TagD × NodeD)} {seen : List Nat} {i : Nat} {q : TagD × NodeD} (hq : l[i]? = some q) (h : ¬ p q.2 = true) : pick p f l (seen ++ [i]) = pick p f l seen := by
  simp [pick, hq, h]
theorem pick_range {β : Type} (p : NodeD → Bool) (f : TagD × NodeD → β) : ∀ (l : List (TagD × NodeD)), pick p f l (List.range l.length) = (l.filter fun q => p q.2).map f
  | [] => rfl
  | q :: l => by
    have ih := pick_range p f l
    simp only [pick] at ih ⊢
    rw [List.length_cons, List.range_succ_eq_map, List.filterMap_cons]
    simp only [List.getElem?_cons_zero, Option.bind_some, List.filterMap_map]
    have e : ((fun i => ((q :: l)[i]?).bind fun q => if p q.2 = true then some (f q) else none) ∘ Nat.succ) = fun i => (l[i]?).bind fun q => if p q.2 = true then some (f q) else none := by
      funext i; simp
    rw [e, ih]
    cases hp : p q.2 <;> simp [hp]
/-- Each entry once. -/
def Seen (n : Nat) (seen : List Nat) : Prop := seen.Nodup ∧ ∀ i ∈ seen, i < n
theorem Seen.next {n i : Nat} {seen : List Nat} (h : Seen n seen) (hi : i < n) (hn : i ∉ seen) : Seen n (seen ++ [i]) := by
  refine ⟨List.nodup_append.2 ⟨h.1, by simp, ?_⟩, fun j hj => ?_⟩
  · intro a ha b hb e
    rw [List.mem_singleton] at hb
    subst hb e; exact hn ha
  · rcases List.mem_append.1 hj with hj | hj
    · exact h.2 j hj
    · rw [List.mem_singleton.1 hj]; exact hi
theorem Seen.all {n : Nat} {seen : List Nat} (h : Seen n seen) (ha : ∀ i, i < n → i ∈ seen) : seen.Perm (List.range n) := by
  refine (List.perm_ext_iff_of_nodup h.1 List.nodup_range).2 fun i => ?_
  rw [List.mem_range]
  exact ⟨h.2 i, ha i⟩
theorem Seen.len {n : Nat} {seen : List Nat} (h : Seen n seen) : seen.length ≤ n := by
  have hp : seen.Perm ((List.range n).filter fun i => decide (i ∈ seen)) := (List.perm_ext_iff_of_nodup h.1 (List.nodup_range.filter _)).2 fun i => by
    rw [List.mem_filter, List.mem_range, decide_eq_true_eq]
    exact ⟨fun hi => ⟨h.2 i hi, hi⟩, fun hi => hi.2⟩
  have := List.length_filter_le (fun i => decide (i ∈ seen)) (List.range n)
  rw [hp.length_eq]
  simpa using this
theorem pick_len {β : Type} {p : NodeD → Bool} {f : TagD × NodeD → β} {l : List (TagD × NodeD)} {seen : List Nat} (h : Seen l.length seen) : (pick p f l seen).length ≤ l.length :=
  Nat.le_trans (List.length_filterMap_le _ _) h.len
theorem pick_all {β : Type} {p : NodeD → Bool} {f : TagD × NodeD → β} {l : List (TagD × NodeD)} {seen : List Nat} (h : Seen l.length seen) (ha : ∀ i, i < l.length → i ∈ seen) : (pick p f l seen).Perm ((l.filter fun q => p q.2).map f) := by
  rw [← pick_range]
  exact (h.all ha).filterMap _
/-- The rising tags of those nodes of which p holds. -/
def tagsOf (p : NodeD → Bool) (l : List (TagD × NodeD)) : List TagD := sortT ((l.filter fun q => p q.2).map (·.1))
theorem tags_pick {p : NodeD → Bool} {l : List (TagD × NodeD)} {seen : List Nat} (h : Seen l.length seen) (ha : ∀ i, i < l.length → i ∈ seen) : sortT (pick p (·.1) l seen) = tagsOf p l := sortT_eq (pick_all h ha)
theorem tagsOf_perm {p : NodeD → Bool} {l l' : List (TagD × NodeD)} (h : l.Perm l') : tagsOf p l = tagsOf p l' := sortT_eq ((h.filter _).map _)
theorem tagsOf_len {p : NodeD → Bool} {l : List (TagD × NodeD)} : (tagsOf p l).length ≤ l.length := by
  unfold tagsOf
  rw [sortT_len, List.length_map]
  exact List.length_filter_le _ _
/-- Of a map of edges: the edges in order. -/
def edgesOf (l : List (TagD × NodeD)) : List EdgeD := (tagsOf (fun _ => true) l).map fun k => ((findT k l).getD noNode).edge
theorem find_node {E : List EdgeD} (hu : E.Pairwise fun a b => ¬ a.id = b.id) : ∀ {e : EdgeD}, e ∈ E → ∀ (g : EdgeD → NodeD), findT e.id (E.map fun e => (e.id, g e)) = some (g e) := by
  induction E with
  | nil => intro e h; cases h
  | cons x E ih =>
    intro e he g
    obtain ⟨h1, h2⟩ := List.pairwise_cons.1 hu
    simp only [List.map_cons, findT]
    rcases List.mem_cons.1 he with rfl | he
    · rw [if_pos rfl]
    · rw [if_neg (fun h => h1 e he h.symm)]; exact ih h2 he g
theorem edgesOf_nodes {E : List EdgeD} (hu : E.Pairwise fun a b => ¬ a.id = b.id) : edgesOf (nodesOf E) = sortE E := by
  unfold edgesOf tagsOf nodesOf
  rw [List.filter_eq_self.2 (by intro a _; rfl), List.map_map]
  rw [show ((fun (q : TagD × NodeD) => q.1) ∘ fun e : EdgeD => (e.id, nodeOf E e)) = EdgeD.id from rfl, sort_keys, List.map_map]
  conv => rhs; rw [← List.map_id (sortE E)]
  refine List.map_congr_left fun e he => ?_
  simp only [Function.comp_apply, id]
  rw [find_node hu ((sortE_perm E).mem_iff.1 he) (nodeOf E)]
  rfl
theorem liveOf_nodes {E : List EdgeD} : tagsOf (fun n => decide (n.state = 2)) (nodesOf E) = ((sortE E).filter fun e => decide ((cameOf E e.id).1 = 2)).map (·.id) := by
  unfold tagsOf nodesOf
  rw [List.filter_map, List.map_map]
  exact sort_filter E fun e => decide ((cameOf E e.id).1 = 2)
/-! ### The same edges in another order -/
theorem edgeOf_perm {E F : List EdgeD} (hu : E.Pairwise fun a b => ¬ a.id = b.id) (hp : E.Perm F) (id : TagD) : edgeOf E id = edgeOf F id := by
  have hF : F.Pairwise fun a b => ¬ a.id = b.id := (hp.pairwise_iff (R := fun a b : EdgeD => ¬ a.id = b.id) (fun h e => h e.symm)).1 hu
  cases h : edgeOf E id with
  | some e =>
    obtain ⟨h1, rfl⟩ := edge_mem h
    exact (edge_of_mem hF (hp.mem_iff.1 h1)).symm
  | none =>
    cases k : edgeOf F id with
    | none => rfl
    | some e =>
      obtain ⟨h1, rfl⟩ := edge_mem k
      rw [edge_of_mem hu (hp.mem_iff.2 h1)] at h; cases h
theorem comes_perm {E F : List EdgeD} (hu : E.Pairwise fun a b => ¬ a.id = b.id) (hp : E.Perm F) : ∀ (n : Nat) (id : TagD), comes n E id = comes n F id
  | 0, _ => rfl
  | n + 1, id => by
    by_cases h0 : id = noTag
    · subst h0; rw [comes_root, comes_root]
    · have he := edgeOf_perm hu hp id
      cases h : edgeOf E id with
      | none => rw [comes_none h0 h, comes_none h0 (he ▸ h)]
      | some e => rw [comes_succ h0 h, comes_succ h0 (he ▸ h), comes_perm hu hp n e.parent]
theorem came_perm {E F : List EdgeD} (hu : E.Pairwise fun a b => ¬ a.id = b.id) (hp : E.Perm F) (id : TagD) : cameOf E id = cameOf F id := by
  unfold cameOf; rw [hp.length_eq]; exact comes_perm hu hp _ id
theorem nodes_perm {E F : List EdgeD} (hu : E.Pairwise fun a b => ¬ a.id = b.id) (hp : E.Perm F) : (nodesOf E).Perm (nodesOf F) := by
  have e : nodesOf F = F.map fun e => (e.id, nodeOf E e) := by
    unfold nodesOf
    refine List.map_congr_left fun e _ => ?_
    have := came_perm hu hp e.id
    unfold cameOf at this
    unfold nodeOf
    simp only [this]
  rw [e]
  exact hp.map _
theorem sortE_eq {E F : List EdgeD} (hu : E.Pairwise fun a b => ¬ a.id = b.id) (hp : E.Perm F) : sortE E = sortE F := by
  have hF : F.Pairwise fun a b => ¬ a.id = b.id := (hp.pairwise_iff (R := fun a b : EdgeD => ¬ a.id = b.id) (fun h e => h e.symm)).1 hu
  refine List.Perm.eq_of_pairwise (le := fun a b => leT a.id b.id = true) (fun a b ha hb h k => ?_) (sortE_rises E) (sortE_rises F) ((sortE_perm E).trans (hp.trans (sortE_perm F).symm))
  have he := leT_anti h k
  have h1 := edge_of_mem hu ((sortE_perm E).mem_iff.1 ha)
  have h2 := edge_of_mem hu (hp.mem_iff.2 ((sortE_perm F).mem_iff.1 hb))
  rw [he, h2] at h1
  exact (Option.some.inj h1).symm
end Go.Vm
end
section
namespace Go.Vm
open Go.RowKit Go.Proofs Go.Sort Go.Lib
set_option linter.unusedVariables false
set_option linter.unusedSimpArgs false

def encT (t : TagD) : List Value := [.int .i64 t.r, .int .i64 t.n]
def cfT (a b : TagD) : Int := if lessT a b = true then -1 else if lessT b a = true then 1 else 0
theorem cf_lt (a b : TagD) : ltOf cfT a b = lessT a b := by
  unfold ltOf cfT
  cases h : lessT a b with
  | true => simp
  | false => cases lessT b a <;> simp
theorem cf_ltF : ltOf cfT = lessT := by funext a b; exact cf_lt a b
theorem cf_le : (fun a b => !(ltOf cfT) b a) = leT := by rw [cf_ltF]; rfl
set_option maxHeartbeats 1000000 in
theorem less_kit (x y : TagD) (W : World) : Calls Try.prog 122 #[.agg #[.int .i64 x.r, .int .i64 x.n], .agg #[.int .i64 y.r, .int .i64 y.n]] W fun e w' => e = .returned (.bool (lessT x y)) ∧ ∃ q os', w' = grow (W.drewN q) os' := by
  have h0 : lessT x y = if x.r = y.r then decide (x.n < y.n) else decide (x.r < y.r) := rfl
  generalize lessT x y = R at h0 ⊢
  obtain ⟨xr, xn⟩ := x
  obtain ⟨yr, yn⟩ := y
  simp only at h0 ⊢
  go_enter Try.func122, Try.ntmps122
  go_wp2
  all_goals (go_ret; refine ⟨?_, 0, _, by rw [alloc_eq_grow, alloc_eq_grow, grow_grow]; rfl⟩)
  all_goals (subst h0; simp_all)
theorem drewN_grow (w : World) (os : Array Obj) (n : Nat) : (grow w os).drewN n = grow (w.drewN n) os := rfl
theorem cell_grown {w w' : World} {q : Nat} {os : Array Obj} {p : Addr} (h : w' = grow (w.drewN q) os) (hp : p.block < w.heap.size) : w'.cell? p = w.cell? p := by rw [h]; exact cell?_grow _ _ _ hp
theorem size_grown {w w' : World} {q : Nat} {os : Array Obj} (h : w' = grow (w.drewN q) os) : w.heap.size ≤ w'.heap.size := by rw [h, size_grow]; exact Nat.le_add_right _ _
theorem drewN_drewN (w : World) (a b : Nat) : (w.drewN a).drewN b = w.drewN (a + b) := by simp [World.drewN, Nat.add_assoc]
theorem one_grown {W w1 : World} {a b : Obj} {q1 : Nat} {os1 : Array Obj} (h1 : RowKit.Hid (w1 = grow (((W.alloc a).alloc b).drewN q1) os1)) : ∃ os, w1 = grow (W.drewN q1) os := by
  have e1 : w1 = _ := h1
  rw [e1, alloc_eq_grow, alloc_eq_grow, grow_grow, drewN_grow, grow_grow]
  exact ⟨_, rfl⟩
theorem two_grown {W w1 w2 : World} {a b : Obj} {q1 q2 : Nat} {os1 os2 : Array Obj} (h1 : RowKit.Hid (w1 = grow (((W.alloc a).alloc b).drewN q1) os1)) (h2 : RowKit.Hid (w2 = grow (w1.drewN q2) os2)) : ∃ os, w2 = grow (W.drewN (q1 + q2)) os := by
  have e1 : w1 = _ := h1
  have e2 : w2 = _ := h2
  rw [e2, e1, alloc_eq_grow, alloc_eq_grow, grow_grow, drewN_grow, grow_grow, drewN_grow, drewN_grow, drewN_drewN, grow_grow]
  exact ⟨_, rfl⟩
theorem less_kit2 : ∃ L : Int → Int → Int → Int → Bool, (∀ a b c d, L a b c d = lessT ⟨a, b⟩ ⟨c, d⟩) ∧ ∀ a b c d W, Calls Try.prog 122 #[.agg #[.int .i64 a, .int .i64 b], .agg #[.int .i64 c, .int .i64 d]] W fun e w' => e = .returned (.bool (L a b c d)) ∧ ∃ q os', w' = grow (W.drewN q) os' :=
  ⟨fun a b c d => lessT ⟨a, b⟩ ⟨c, d⟩, fun _ _ _ _ => rfl, fun a b c d W => less_kit ⟨a, b⟩ ⟨c, d⟩ W⟩
set_option maxHeartbeats 1000000 in
theorem cmp_any (x y : TagD) (W : World) : Calls Try.prog 121 #[.agg #[.int .i64 x.r, .int .i64 x.n], .agg #[.int .i64 y.r, .int .i64 y.n]] W fun e w' => e = .returned (.int .i64 (cfT x y)) ∧ ∃ q os', w' = grow (W.drewN q) os' := by
  obtain ⟨L, hL, c⟩ := less_kit2
  obtain ⟨xr, xn⟩ := x
  obtain ⟨yr, yn⟩ := y
  have h0 : cfT ⟨xr, xn⟩ ⟨yr, yn⟩ = if L xr xn yr yn = true then -1 else if L yr yn xr xn = true then 1 else 0 := by rw [hL, hL]; rfl
  clear hL
  generalize cfT ⟨xr, xn⟩ ⟨yr, yn⟩ = R at h0 ⊢
  have H0 := Lib.hid h0
  clear h0
  simp only
  cases h1 : L xr xn yr yn with
  | true =>
    go_enter Try.func121, Try.ntmps121
    go_wp2_with (go_at_call 122; refine (c _ _ _ _ _).mono ?_; rintro e w1 ⟨rfl, q1, os1, hw1⟩; have hc := fun (p : Addr) (hp : p.block < _) => cell_grown (p := p) hw1 hp; have HW1 := Lib.hid hw1; clear hw1)
    go_ret
    have h0 : R = _ := H0
    exact ⟨by rw [h0, h1]; rfl, q1, one_grown HW1⟩
  | false => cases h2 : L yr yn xr xn with
    | true =>
      go_enter Try.func121, Try.ntmps121
      go_wp2_with (first | (have z0 := q1; (go_at_call 122; refine (c _ _ _ _ _).mono ?_; rintro e w2 ⟨rfl, q2, os2, hw2⟩; have HW2 := Lib.hid hw2; clear hw2)) | (go_at_call 122; refine (c _ _ _ _ _).mono ?_; rintro e w1 ⟨rfl, q1, os1, hw1⟩; have hc := fun (p : Addr) (hp : p.block < _) => cell_grown (p := p) hw1 hp; have HW1 := Lib.hid hw1; clear hw1))
      go_ret
      have h0 : R = _ := H0
      exact ⟨by rw [h0, h1, h2]; rfl, q1 + q2, two_grown HW1 HW2⟩
    | false =>
      go_enter Try.func121, Try.ntmps121
      go_wp2_with (first | (have z0 := q1; (go_at_call 122; refine (c _ _ _ _ _).mono ?_; rintro e w2 ⟨rfl, q2, os2, hw2⟩; have HW2 := Lib.hid hw2; clear hw2)) | (go_at_call 122; refine (c _ _ _ _ _).mono ?_; rintro e w1 ⟨rfl, q1, os1, hw1⟩; have hc := fun (p : Addr) (hp : p.block < _) => cell_grown (p := p) hw1 hp; have HW1 := Lib.hid hw1; clear hw1))
      go_ret
      have h0 : R = _ := H0
      exact ⟨by rw [h0, h1, h2]; rfl, q1 + q2, two_grown HW1 HW2⟩
end Go.Vm
end
section
namespace Go.Vm
open Go.RowKit
set_option linter.unusedVariables false
set_option linter.unusedSimpArgs false

def dropGK (id : Nat) (s : S) (K : S → Prop) : Prop := match s with
  | .sref u sz n => match Nat.beq u id with
    | true => K .junk
    | false => K (.sref u sz n)
  | .gref u sz n => match Nat.beq u id with
    | true => K .junk
    | false => K (.gref u sz n)
  | .ref u off => match Nat.beq u id with
    | true => K .junk
    | false => K (.ref u off)
  | s => sK s K
theorem dropGK_spec {id : Nat} (s : S) (K : S → Prop) (h : dropGK id s K) : K (dropG id s) := by
  cases s with
  | sref u sz n =>
    simp only [dropGK] at h
    show K (if u = id then .junk else .sref u sz n)
    split at h
    · rename_i hb; rw [if_pos (Nat.eq_of_beq_eq_true hb)]; exact h
    · rename_i hb; rw [if_neg (fun e => by rw [e, Nat.beq_refl] at hb; cases hb)]; exact h
  | gref u sz n =>
    simp only [dropGK] at h
    show K (if u = id then .junk else .gref u sz n)
    split at h
    · rename_i hb; rw [if_pos (Nat.eq_of_beq_eq_true hb)]; exact h
    · rename_i hb; rw [if_neg (fun e => by rw [e, Nat.beq_refl] at hb; cases hb)]; exact h
  | ref u off =>
    simp only [dropGK] at h
    show K (if u = id then .junk else .ref u off)
    split at h
    · rename_i hb; rw [if_pos (Nat.eq_of_beq_eq_true hb)]; exact h
    · rename_i hb; rw [if_neg (fun e => by rw [e, Nat.beq_refl] at hb; cases hb)]; exact h
  | c x => cases x <;> exact h
  | _ => exact h
theorem nameS_dropG {id : Nat} (s : S) : dropG id (nameS s) = nameS s := by cases s <;> rfl
theorem envT_appG {t t1 t2 t3 : Tr} {h : Hp} {id d : Nat} {s g : S} (hd : d < NAM) (hid : id < NAM) (hdi : d ≠ id) (h1 : ∀ u, t1.get u = dropG id (t.get u)) (h2 : ∀ u, t2.get u = if u = id then g else t1.get u) (h3 : ∀ u, t3.get u = if u = d then s else t2.get u) : envT t3 h = appG (envT t h) id d s g := by
  funext u
  simp only [envT, appG, h3, h2, h1]
  by_cases e : u = d
  · subst e; simp [hd]
  · simp only [if_neg e]
    by_cases e2 : u = id
    · subst e2; simp [hid]
    · simp only [if_neg e2]
      split
      · rfl
      · exact (nameS_dropG _).symm
theorem envT_setG {t t2 t3 : Tr} {h : Hp} {id d : Nat} {s g : S} (hd : d < NAM) (hid : id < NAM) (h2 : ∀ u, t2.get u = if u = id then g else t.get u) (h3 : ∀ u, t3.get u = if u = d then s else t2.get u) : envT t3 h = setG (envT t h) id d s g := by
  funext u
  simp only [envT, setG, h3, h2]
  by_cases e : u = d
  · subst e; simp [hd]
  · simp only [if_neg e]
    by_cases e2 : u = id
    · subst e2; simp [hid]
    · simp only [if_neg e2]

section
variable {P : Program} {N : Nat} {t : Tr} {h : Hp} {o : Oper}
theorem at_row {id sz : Nat} {xs : List D} (hi : id < NAM) (hg : t.get id = .gbox sz xs) : envT t h id = .gbox sz xs := by rw [envT_lt hi, hg]
theorem x_appG {T e : TypeId} {sz bytes id n d m : Nat} {x y : Operand} {xs ys zs : List D} {K : Tr → Hp → Prop} (hT : elemFull P T = some (e, sz, bytes))
    (hx : vget (envT t h) x = .sref id sz n) (hg : t.get id = .gbox sz xs) (hy : vd (envT t h) y = some (.row ys)) (hn : xs.length = n) (hw : ∀ y ∈ ys, y.cells.length = sz) (h63 : n + ys.length ≤ maxLen) (hby : (n + ys.length) * bytes ≤ 140737488355328) (hz : xs ++ ys = zs) (hm : n + ys.length = m)
    (hk : mapK (dropGK id) t fun t1 => setK 20 t1 id (.gbox sz zs) fun t2 => setK 20 t2 d (.sref id sz m) fun t3 => K t3 h)
    (hop : o.op = .call { callee := .builtin .append, args := #[x, y], argTypes := #[T, T] } := by rfl) (hd : o.dst = some d := by rfl) (hdN : d < N := by exact Nat.le_of_ble_eq_true rfl) (hNB : N ≤ BIG := by exact Nat.le_of_ble_eq_true rfl) (hid : BIG ≤ id := by exact Nat.le_of_ble_eq_true rfl) (hid2 : id < NAM := by exact Nat.le_of_ble_eq_true rfl) :
    StepP P N o (envT t h) fun e => ∃ (t' : Tr) (h' : Hp), e = envT t' h' ∧ K t' h' := by
  refine stepP_of ?_
  subst hz hm
  obtain ⟨t1, k1, hk⟩ := mapK_spec (f := dropG id) rfl dropGK_spec hk
  obtain ⟨t2, k2, hk⟩ := setK_spec hk
  obtain ⟨t3, k3, hk⟩ := setK_spec hk
  have hdB : d < BIG := Nat.lt_of_lt_of_le hdN hNB
  exact ⟨t3, h, by rw [envT_appG (nam hdB) hid2 (by omega) k1 k2 k3]; exact s_appendG hop hT hx (at_row hid2 hg) hn hy hw h63 hby hd hdN hdB, hk⟩
theorem x_freezeG {sz id n d : Nat} {x : Operand} {xs : List D} {K : Tr → Hp → Prop} (hx : vget (envT t h) x = .sref id sz n) (hg : t.get id = .gbox sz xs) (hn : xs.length = n)
    (hk : mapK (dropGK id) t fun t1 => setK 20 t1 id (.gbox sz []) fun t2 => setK 20 t2 d (.c (.d (.row xs))) fun t3 => K t3 h)
    (hop : o.op = .move x ∨ o.op = .assign x := by first | exact .inl rfl | exact .inr rfl) (hd : o.dst = some d := by rfl) (hdN : d < N := by exact Nat.le_of_ble_eq_true rfl) (hNB : N ≤ BIG := by exact Nat.le_of_ble_eq_true rfl) (hid : BIG ≤ id := by exact Nat.le_of_ble_eq_true rfl) (hid2 : id < NAM := by exact Nat.le_of_ble_eq_true rfl) :
    StepP P N o (envT t h) fun e => ∃ (t' : Tr) (h' : Hp), e = envT t' h' ∧ K t' h' := by
  refine stepP_of ?_
  obtain ⟨t1, k1, hk⟩ := mapK_spec (f := dropG id) rfl dropGK_spec hk
  obtain ⟨t2, k2, hk⟩ := setK_spec hk
  obtain ⟨t3, k3, hk⟩ := setK_spec hk
  have hdB : d < BIG := Nat.lt_of_lt_of_le hdN hNB
  exact ⟨t3, h, by rw [envT_appG (nam hdB) hid2 (by omega) k1 k2 k3]; exact s_freezeG hop hx (at_row hid2 hg) hn hd hdN hdB, hk⟩
theorem x_turnG {f : FuncId} {ts : Array TypeId} {sz id n d : Nat} {x y : Operand} {xs xs' : List D} {dy : D} {K : Tr → Hp → Prop} (hf : enters P f = true) (hc : InPlace P f sz xs xs' dy) (hx : vget (envT t h) x = .sref id sz n) (hg : t.get id = .gbox sz xs) (hy : vd (envT t h) y = some dy) (hn : xs.length = n) (hl : xs'.length = xs.length) (hw : ∀ x ∈ xs', x.cells.length = sz)
    (hk : setK 20 t id (.gbox sz xs') fun t2 => setK 20 t2 d (.tup []) fun t3 => K t3 h)
    (hop : o.op = .call { callee := .value (.func f), args := #[x, y], argTypes := ts } := by rfl) (hd : o.dst = some d := by rfl) (hdN : d < N := by exact Nat.le_of_ble_eq_true rfl) (hNB : N ≤ BIG := by exact Nat.le_of_ble_eq_true rfl) (hid2 : id < NAM := by exact Nat.le_of_ble_eq_true rfl) :
    StepP P N o (envT t h) fun e => ∃ (t' : Tr) (h' : Hp), e = envT t' h' ∧ K t' h' := by
  refine stepP_of ?_
  obtain ⟨t2, k2, hk⟩ := setK_spec hk
  obtain ⟨t3, k3, hk⟩ := setK_spec hk
  have hdB : d < BIG := Nat.lt_of_lt_of_le hdN hNB
  exact ⟨t3, h, by rw [envT_setG (nam hdB) hid2 k2 k3]; exact s_callG hop hf hc hx (at_row hid2 hg) hn hl hw hy hd hdN hdB, hk⟩
theorem xnilG {c : Code} {Q : Exit → Env → Prop} (u id sz : Nat) (hu : t.get u = .c .nil) (hb : u < NAM) (hid2 : id < NAM) (hid : BIG ≤ id) (h0 : 0 < sz) (hk : setK 20 t id (.gbox sz []) fun t => setK 20 t u (.sref id sz 0) fun t => Leaf (VC P N c (envT t h) Q)) : Leaf (VC P N c (envT t h) Q) := by
  obtain ⟨t2, k2, hk⟩ := setK_spec hk
  obtain ⟨t3, k3, hk⟩ := setK_spec hk
  refine ⟨fun base w0 ro0 a w ⟨ro, blk, hs⟩ => hk.out base w0 ro0 a w ⟨ro, blk, ?_⟩⟩
  rw [envT_set hb k3, envT_set hid2 k2]
  by_cases e : u = id
  · subst e
    have h1 := hs.nilG (sz := sz) (u := u) (by rw [envT_lt hb]; exact hu) hid
    have e2 : upd (upd (envT t h) (some u) (.gbox sz [])) (some u) (.sref u sz 0) = upd (envT t h) (some u) (.sref u sz 0) := by
      funext v; simp only [upd]; split <;> rfl
    rw [e2]; exact h1
  · have h1 := hs.noneG (id := id) h0
    exact h1.nilG (by simp only [upd, if_neg e]; rw [envT_lt hb]; exact hu) hid
/-- What is moved, as a row that nobody appends to. -/
theorem y_frz {x : Operand} {r : D} {env : Env} (hop : o.op = .move x ∨ o.op = .assign x) (hx : vd env x = some r) {d : Nat} (hdst : o.dst = some d) (hd : d < N) : Yield P N o env (.c (.d r)) := by
  refine yield_of hdst hd fun env' he base w0 ro0 ro blk a w hs => ?_
  have h2 := hs.getD (x := x) (by rw [he.getD (by rcases hop with h | h <;> simp [h, Op.operands])]; exact hx)
  exact ⟨a.eval x, w, ro, by rcases hop with h | h <;> simp [execOp, h], Grow.refl hs.new, h2⟩
theorem x_frz {x : Operand} {r : List D} {d : Nat} {K : S → Hp → Prop} (hK : K (.c (.d (.row r))) h) (hop : o.op = .move x ∨ o.op = .assign x := by first | exact .inl rfl | exact .inr rfl) (hx : vd (envT t h) x = some (.row r) := by rfl) (hd : o.dst = some d := by rfl) (hdN : d < N := by exact Nat.le_of_ble_eq_true rfl) :
    ∃ (s : S) (h' : Hp), Step P N o (envT t h) (upd (envT t h') (some d) s) ∧ K s h' := x_fy (y_frz hop hx hd hdN) hK hd
/-- A function value that is called. -/
theorem y_callF {f : FuncId} {g : Operand} {xs : Array Operand} {ts : Array TypeId} {ds : List D} {res : List C} {env : Env} (hop : o.op = .call { callee := .value g, args := xs, argTypes := ts }) (hg : vd env g = some (.fn f [])) (hf : enters P f = true) (hx : vargs env xs.toList = some ds) (hc : Contract P f ds res) {d : Nat} (hdst : o.dst = some d) (hd : d < N) : Yield P N o env (resS (res.map (setTok d))) := by
  intro env' he base w0 ro0 a w ⟨ro, blk, hs⟩ K Q hK
  have hx' : vargs env' xs.toList = some ds := by
    rw [← hx]
    refine vargs_agree fun x hm => he.getD ?_
    simp only [hop, Op.operands, Call.operands]
    simp [Array.mem_toList_iff.1 hm]
  obtain ⟨h1, h2⟩ := vargs_rep hs hx'
  have hgr := hs.getD (x := g) (by rw [he.getD (by simp [hop, Op.operands, Call.operands])]; exact hg)
  have hgv : a.eval g = .func (.func f) #[] #[] := by
    generalize hz : a.eval g = z at hgr
    cases hgr with
    | @fn f cap cs hl _ => obtain rfl : cap = #[] := Array.eq_empty_of_size_eq_zero (by simpa using hl); rfl
  unfold Oper.wp
  have hrun : (execOp a.eval o).run P w = .ok (.enter f (xs.map a.eval)) w := by
    unfold enters at hf
    split at hf
    · rename_i fn hfn
      simp only [Bool.and_eq_true, bne_iff_ne, ne_eq] at hf
      cases hbody : fn.body with
      | none => rw [hbody] at hf; simp at hf
      | some c => simp [execOp, hop, resolve, hgv, Deferred.ofValue, invoke, callFunc, hfn, hf.1, hbody]
    · cases hf
  rw [hrun, Oper.upon_enter]
  refine (hc ro w (xs.map a.eval) d hs.new hs.uniq (by simpa using h1) (by simpa using h2)).mono ?_
  rintro e w' ⟨v, ro', rfl, hg, hsat⟩
  rw [hdst] at hK ⊢
  exact hK _ _ ⟨ro', blk, hs.put hg hd (sat_res hs.room hsat) (resS_free _)⟩
theorem x_callF {f : FuncId} {g : Operand} {xs : Array Operand} {ts : Array TypeId} {ds : List D} {res : List C} {d : Nat} {K : S → Hp → Prop} (hf : enters P f = true) (hc : Contract P f ds res) (hK : K (resS (res.map (setTok d))) h)
    (hop : o.op = .call { callee := .value g, args := xs, argTypes := ts } := by rfl) (hg : vd (envT t h) g = some (.fn f []) := by rfl) (hx : vargs (envT t h) xs.toList = some ds := by rfl) (hd : o.dst = some d := by rfl) (hdN : d < N := by exact Nat.le_of_ble_eq_true rfl) :
    ∃ (s : S) (h' : Hp), Step P N o (envT t h) (upd (envT t h') (some d) s) ∧ K s h' :=
  x_fy (y_callF hop hg hf hx hc hd hdN) hK hd
end

section
variable {P : Program} {N : Nat} {env : Env} {t : Tr} {h : Hp} {o : Oper}
theorem setH_self {pre : List (Nat × S)} (hpre : ∀ p ∈ pre, env p.1 = p.2) : setH pre pre env = env := by
  funext u
  unfold setH
  cases hf : pre.find? fun p => p.1 == u with
  | some p =>
    have h1 := List.mem_of_find?_eq_some hf
    have h2 := List.find?_some hf
    simp only [beq_iff_eq] at h2
    simp only
    rw [← h2]
    exact (hpre p h1).symm
  | none =>
    simp only
    rw [List.find?_eq_none] at hf
    rw [if_neg]
    intro hn
    obtain ⟨s, hs⟩ := nameIn_mem hn
    exact hf _ hs (by simp)
/-- A call that only reads makes no difference to others. -/
theorem y_callR {f : FuncId} {xs : Array Operand} {ts : Array TypeId} {ds : List D} {res : List C} {pre : List (Nat × S)} (hop : o.op = .call { callee := .value (.func f), args := xs, argTypes := ts }) (hf : enters P f = true) (hx : vargs env xs.toList = some ds) (hc : ContractH P f ds pre res pre)
    (hpre : ∀ p ∈ pre, env p.1 = p.2 ∧ live p.2 = true ∧ BIG ≤ p.1) {d : Nat} (hdst : o.dst = some d) (hd : d < N) (hN : N ≤ BIG) : Yield P N o env (resS (res.map (setTok d))) := by
  intro env' ha
  have hn : ∀ p ∈ pre, env' p.1 = p.2 := fun p hp => (ha.2.2 p.1 (hpre p hp).2.2).trans (hpre p hp).1
  have hx' : vargs env' xs.toList = some ds := by
    rw [← hx]
    exact vargs_agree fun x hm => ha.getD (by simp only [hop, Op.operands, Call.operands]; simp; exact .inr (by simpa using hm))
  have := s_callH (N := N) (env := env') hop hf hx' hc (fun p hp => ⟨hn p hp, .inl (hpre p hp).2.1⟩) (fun p hp => ⟨(hpre p hp).2.1, List.any_eq_true.2 ⟨p, hp, by simp⟩, (hpre p hp).2.2⟩) hdst hd hN
  rw [setH_self hn] at this
  rw [hdst]
  exact this
theorem q_callR {ops : Array Oper} {f : FuncId} {xs : Array Operand} {ts : Array TypeId} {ds : List D} {res : List C} {d : Nat} {pre : List (Nat × S)} {K : S → Prop} (he : enters P f = true) (hc : ContractH P f ds pre res pre) (hK : K (resS (res.map (setTok d)))) (hpre : preOk h pre)
    (hl : ∀ p ∈ pre, live p.2 = true := by simp [live]) (hnb : nb (resS (res.map (setTok d))) = true := by rfl)
    (hop : o.op = .call { callee := .value (.func f), args := xs, argTypes := ts } := by rfl) (hx : vargs (envT t h) xs.toList = some ds := by rfl) (hd : o.dst = some d := by rfl) (hdN : d < N := by exact Nat.le_of_ble_eq_true rfl) (hNB : N ≤ BIG := by exact Nat.le_of_ble_eq_true rfl) (hg : guardOk ops o (envT t h) = some true := by rfl) (hr : refOk o (envT t h) (resS (res.map (setTok d))) = true := by rfl) :
    ∃ s, DG P N ops o (envT t h) (.slot (some d) s) ∧ K s := by
  have hp := pre_env (t := t) hpre (fun p hm => .inl (hl p hm))
  refine ⟨_, dg_of (y_callR hop he hx hc (fun p hm => ⟨(hp p hm).1, hl p hm, Nat.le_trans (by decide) (preOk_spec hpre p hm).1⟩) hd hdN hNB) hd hdN hNB hg hnb hr (by unfold derefOk addrOf; rw [hop]), hK⟩
end
end Go.Vm
end
section
namespace Go.Vm
open Go.RowKit Go.Proofs Go.Sort Go.Lib
set_option linter.unusedVariables false
set_option linter.unusedSimpArgs false

instance : Inhabited TagD := ⟨noTag⟩
theorem flat_tags : ∀ (ts : List TagD), flat (ts.map tD) = (ts.flatMap encT).map D.sc
  | [] => rfl
  | t :: ts => by
    have := flat_tags ts
    simp only [flat] at this
    simp [flat, tD, D.cells, encT, this]
theorem plain_enc (ts : List TagD) : ∀ u ∈ ts.flatMap encT, plainV u = true := by
  intro u hu
  obtain ⟨t, _, h⟩ := List.mem_flatMap.1 hu
  simp [encT] at h
  rcases h with rfl | rfl <;> rfl
theorem reps_sc {ro : Roles} {w : World} {us vs : List Value} (h : Reps ro w us (vs.map D.sc)) : us = vs := by
  refine List.ext_getElem? fun j => ?_
  have hl : us.length = vs.length := by simpa using h.1
  cases hu : us[j]? with
  | none =>
    rw [List.getElem?_eq_none_iff] at hu
    exact (List.getElem?_eq_none (by omega)).symm
  | some u =>
    have hlt := (List.getElem?_eq_some_iff.1 hu).1
    have hv : vs[j]? = some vs[j] := List.getElem?_eq_getElem (by omega)
    have := h.2.2 j u (.sc vs[j]) hu (by rw [List.getElem?_map, hv]; rfl)
    rw [hv, (rep_sc this).1]
theorem sc_reps {ro : Roles} {w : World} {vs : List Value} (h : ∀ u ∈ vs, plainV u = true) : Reps ro w vs (vs.map D.sc) := by
  refine ⟨by simp, fun u hu => plainV_one (h u hu), fun j u c hu hc => ?_⟩
  rw [List.getElem?_map, hu] at hc
  injection hc with hc
  subst hc
  exact .sc (h u (List.mem_of_getElem? hu))
theorem flat_enc_len (ts : List TagD) : (ts.flatMap encT).length = ts.length * 2 := by
  induction ts with
  | nil => rfl
  | cons t ts ih => rw [List.flatMap_cons, List.length_append, ih, List.length_cons, Nat.add_mul]; simp [encT]; omega
theorem flat_enc_at : ∀ (ts : List TagD) (t : Nat), t < ts.length * 2 → (ts.flatMap encT)[t]? = some ((encT ts[t / 2]!)[t % 2]!)
  | [], t, h => by simp at h
  | x :: ts, 0, _ => rfl
  | x :: ts, 1, _ => rfl
  | x :: ts, t + 2, h => by
    rw [List.flatMap_cons, List.getElem?_append_right (by simp [encT])]
    have e : t + 2 - (encT x).length = t := by simp [encT]
    rw [e, flat_enc_at ts t (by rw [List.length_cons] at h; omega)]
    rw [show (t + 2) / 2 = t / 2 + 1 by omega, show (t + 2) % 2 = t % 2 by omega]
    simp
theorem flatK_eq (ts : List TagD) : flatK encT 2 ts.toArray = (ts.flatMap encT).toArray := by
  refine Array.ext (by rw [size_flatK, List.size_toArray, List.size_toArray, flat_enc_len]) fun t h1 h2 => ?_
  have hlt : t < ts.length * 2 := by simpa using h1
  have h3 := get_flatK encT 2 ts.toArray t (by simpa using hlt)
  rw [getElem!_pos _ t h1] at h3
  rw [h3]
  have h4 := flat_enc_at ts t hlt
  have h5 : (ts.flatMap encT).toArray[t]? = (ts.flatMap encT)[t]? := by simp
  rw [Array.getElem?_eq_getElem h2, h4] at h5
  injection h5 with h5
  rw [h5]; simp
theorem cf_swo : SWO (ltOf cfT) := by
  rw [cf_ltF]
  exact ⟨lessT_irrefl, fun _ _ _ h k => lessT_trans h k, fun _ _ _ h k => lessT_ntrans h k⟩
theorem cf_parts : ∀ x y, (ltOf cfT) x y = false → (ltOf cfT) y x = false → x = y := by
  rw [cf_ltF]
  exact fun _ _ h k => lessT_total h k
theorem rep_fn {ro : Roles} {w : World} {v : Value} {f : FuncId} (h : Rep ro w v (.fn f [])) : v = .func (.func f) #[] #[] := by
  cases h with
  | @fn f cap cs hl _ => obtain rfl : cap = #[] := Array.eq_empty_of_size_eq_zero (by simpa using hl); rfl
theorem tags_sort (ts : List TagD) (hn : ts.length ≤ 1000000) : InPlace Try.prog 120 2 (ts.map tD) ((sortT ts).map tD) (.fn 121 []) := by
  intro ro w fv hfv
  obtain rfl := rep_fn hfv
  refine ⟨fun _ => AnyF.slices_SortFunc_none Try.sortTag none 0 _ w, fun b cap arr e hh hcap hm hsz hr => ?_⟩
  rw [List.length_map] at hcap hr ⊢
  rw [flat_tags] at hr
  have hus := reps_sc hr
  have hlt := block_lt hh
  have hle : ts.length * 2 ≤ arr.size := by rw [hsz]; exact Nat.mul_le_mul_right _ hcap
  have hcell : ∀ j, w.cell? ⟨b, j, none⟩ = arr[j]? := fun j => by
    have := cell_of_row w b j arr e (0, 0) hh
    simpa using this
  have hget : ∀ j, j < ts.length * 2 → arr[j]? = some ((ts.flatMap encT).toArray[j]!) := by
    intro j hj
    have h1 : (arr.toList.take (ts.length * 2))[j]? = (ts.flatMap encT)[j]? := by rw [hus]
    rw [List.getElem?_take, if_pos hj] at h1
    have h2 : j < (ts.flatMap encT).length := by rw [flat_enc_len]; exact hj
    rw [getElem!_pos _ j (by simpa using h2)]
    rw [List.getElem?_eq_getElem h2] at h1
    simpa using h1
  have hH : HoldsK encT 2 w b 0 ts.toArray := by
    unfold HoldsK
    rw [flatK_eq]
    intro j hj
    have hj2 : j < ts.length * 2 := by rw [List.size_toArray, flat_enc_len] at hj; exact hj
    rw [Nat.zero_add]
    refine ⟨by rw [hcell, hget j hj2]; rfl, ?_⟩
    simp [World.frozen?, hh]
  have hcon := AnyQ.slices_SortFunc_total Try.sortTag 2 Try.isAgg56 Try.sizeOf56 encT (fun _ => rfl) (fun x v hv => by simp [encT] at hv; rcases hv with rfl | rfl <;> rfl) cfT cf_swo 121 #[] b 0 cap ts.toArray w (enters_of Try.func121 (by kernel_rfl) rfl) (fun _ _ _ _ x y => cmp_any x y _) hH hlt (by simp; omega) cf_parts
  rw [cf_le] at hcon
  refine hcon.mono ?_
  rintro e' w' ⟨rfl, n, os, rfl⟩
  have hsl := sortT_len ts
  have hfk : flatK encT 2 (List.mergeSort ts.toArray.toList leT).toArray = ((sortT ts).flatMap encT).toArray := flatK_eq (sortT ts)
  have hb2 : (mapBlock (Sort.ahead w n) b (putCells id 0 (flatK encT 2 (List.mergeSort ts.toArray.toList leT).toArray))).heap.size = w.heap.size := by simp [mapBlock, Sort.ahead]
  have hat : ∀ k, k < w.heap.size → (sortWorldK encT 2 w b 0 n (List.mergeSort ts.toArray.toList leT).toArray os).heap[k]? = if b = k then some (.cells (putCells id 0 ((sortT ts).flatMap encT).toArray arr) e (0, 0)) else w.heap[k]? := by
    intro k hk
    unfold sortWorldK putRowK putRow
    rw [hfk]
    have h1 : (grow (mapBlock (Sort.ahead w n) b (putCells id 0 ((sortT ts).flatMap encT).toArray)) os).heap[k]? = (mapBlock (Sort.ahead w n) b (putCells id 0 ((sortT ts).flatMap encT).toArray)).heap[k]? := by
      unfold grow
      exact Array.getElem?_append_left (by simpa [mapBlock, Sort.ahead] using hk)
    rw [h1]
    show (w.heap.modify b (onCells _))[k]? = _
    rw [Array.getElem?_modify]
    split
    · rename_i e2; subst e2; rw [hh]; rfl
    · rfl
  refine ⟨rfl, rfl, rfl, rfl, size_sortWorldK_c encT 2 w b 0 n _ os, fun k hk hne => ?_, putCells id 0 ((sortT ts).flatMap encT).toArray arr, ?_, ?_, ?_⟩
  · rw [hat k hk, if_neg (fun e2 => hne e2.symm)]
  · rw [hat b hlt, if_pos rfl]
  · simp [putCells]
  · have e2 : (putCells id 0 ((sortT ts).flatMap encT).toArray arr).toList.take (ts.length * 2) = (sortT ts).flatMap encT := by
      refine List.ext_getElem? fun j => ?_
      rw [List.getElem?_take]
      have hfl := flat_enc_len (sortT ts)
      split
      · rename_i hj
        have hj2 : j < arr.size := by omega
        have hj3 : j < ((sortT ts).flatMap encT).length := by omega
        generalize (sortT ts).flatMap encT = F at hj3 ⊢
        simp [putCells, hj2, hj3]
      · rename_i hj
        exact (List.getElem?_eq_none (by omega)).symm
    rw [e2, flat_tags]
    exact sc_reps (plain_enc _)
end Go.Vm
end
section
namespace Go.Vm
open Go.RowKit Go.Proofs
set_option linter.unusedVariables false
set_option linter.unusedSimpArgs false
set_option maxRecDepth 10000
theorem v_56 (x : TagD) : conc (tD x) = some (.agg #[.int .i64 x.r, .int .i64 x.n]) := rfl
theorem rune_56 (r s : TagD) (x y : Operand) (w : World) : (do eqGuard .eql 56 x y (.agg #[.int .i64 r.r, .int .i64 r.n]) (.agg #[.int .i64 s.r, .int .i64 s.n]); binOp .eql 56 (.agg #[.int .i64 r.r, .int .i64 r.n]) (.agg #[.int .i64 s.r, .int .i64 s.n]) : Sem Value).run Try.prog w = .ok (.bool (decide (r = s))) w := by
  obtain ⟨a, b⟩ := r
  obtain ⟨a', b'⟩ := s
  simp [go_sem, eq_strs]
  repeat (first | (split <;> simp_all; done) | split)
  all_goals simp_all
theorem xeq_56e {x y : Operand} {K : Value → Prop} (r s : TagD) (hK : K (.bool (decide (r = s)))) : ∃ u v r', (conc (tD r) = some u ∧ conc (tD s) = some v) ∧ (∀ w, (do eqGuard .eql 56 x y u v; binOp .eql 56 u v : Sem Value).run Try.prog w = .ok r' w) ∧ plainV r' = true ∧ K r' := x_eqS (v_56 r) (v_56 s) (fun w => rune_56 r s x y w) rfl hK
theorem runn_56 (r s : TagD) (x y : Operand) (w : World) : (do eqGuard .neq 56 x y (.agg #[.int .i64 r.r, .int .i64 r.n]) (.agg #[.int .i64 s.r, .int .i64 s.n]); binOp .neq 56 (.agg #[.int .i64 r.r, .int .i64 r.n]) (.agg #[.int .i64 s.r, .int .i64 s.n]) : Sem Value).run Try.prog w = .ok (.bool (!decide (r = s))) w := by
  obtain ⟨a, b⟩ := r
  obtain ⟨a', b'⟩ := s
  simp [go_sem, eq_strs]
  repeat (first | (split <;> simp_all; done) | split)
  all_goals simp_all
theorem xeq_56n {x y : Operand} {K : Value → Prop} (r s : TagD) (hK : K (.bool (!decide (r = s)))) : ∃ u v r', (conc (tD r) = some u ∧ conc (tD s) = some v) ∧ (∀ w, (do eqGuard .neq 56 x y u v; binOp .neq 56 u v : Sem Value).run Try.prog w = .ok r' w) ∧ plainV r' = true ∧ K r' := x_eqS (v_56 r) (v_56 s) (fun w => runn_56 r s x y w) rfl hK
theorem tag_rep {ro : Roles} {w : World} {v : Value} {t : TagD} (h : Rep ro w v (tD t)) : v = .agg #[.int .i64 t.r, .int .i64 t.n] := rep_conc h (v_56 t)
theorem tag_check (b : Bool) (t : TagD) (w : World) : (Instr.checkKey b 10000 56 (.agg #[.int .i64 t.r, .int .i64 t.n])).run Try.prog w = .ok () w := pureRun_run (by rfl) w
theorem tag_eql (r s : TagD) (w : World) : (binOp .eql 56 (.agg #[.int .i64 r.r, .int .i64 r.n]) (.agg #[.int .i64 s.r, .int .i64 s.n])).run Try.prog w = .ok (.bool (decide (r = s))) w := by
  obtain ⟨a, b⟩ := r
  obtain ⟨a', b'⟩ := s
  simp [go_sem]
  repeat (first | (split <;> simp_all; done) | split)
  all_goals simp_all
theorem tag_equal (r s : TagD) (w : World) : (Op.equal 56 (.agg #[.int .i64 r.r, .int .i64 r.n]) (.agg #[.int .i64 s.r, .int .i64 s.n])).run Try.prog w = .ok (decide (r = s)) w := by
  have h := tag_eql r s w
  change (Op.equal 56 _ _ >>= fun r => pure (Value.bool r)).run Try.prog w = _ at h
  rw [Sem.run_bind] at h
  cases hq : (Op.equal 56 (.agg #[.int .i64 r.r, .int .i64 r.n]) (.agg #[.int .i64 s.r, .int .i64 s.n])).run Try.prog w with
  | ok b w1 =>
    rw [hq] at h
    simp only [Result.andThen_ok, Sem.run_pure, Result.ok.injEq, Value.bool.injEq] at h
    rw [h.1, h.2]
  | halt e w1 => rw [hq] at h; cases h
theorem tagKey : KeyOk Try.prog 56 (fun d => ∃ t : TagD, d = tD t) where
  kind := ⟨_, Try.underlying56⟩
  check := by rintro ro w v d b ⟨t, rfl⟩ h; rw [tag_rep h]; exact tag_check b t w
  same := by
    rintro ro w v u d e ⟨t, rfl⟩ ⟨s, rfl⟩ h k
    rw [tag_rep h, tag_rep k]
    exact ⟨_, tag_equal t s w, by rw [decide_eq_true_eq]; exact ⟨fun e => by rw [e], tD_inj⟩⟩
  bits := by rintro ro w v u d ⟨t, rfl⟩ h k; rw [tag_rep h, tag_rep k]; simp [Instr.sameBits]
theorem zeroNode : zeroD Try.prog 123 = some (nD noNode) := by kernel_rfl

end Go.Vm
end
section
namespace Go.Vm
open Go.RowKit Go.Proofs
set_option linter.unusedVariables false
set_option linter.unusedSimpArgs false
set_option maxRecDepth 10000

set_option maxHeartbeats 1000000 in
theorem tag_any (t : TagD) : Contract Try.prog 119 [tD t] [.d (.sc (.bool (tagB t)))] := by
 refine T.fn [] Try.func119 ?_
 refine br (fun hg1 => ?y1) (fun hg1 => ?n1)
 case' y1 =>
  refine br (fun hg2 => ?y2) (fun hg2 => ?n2)
  case' y2 =>
   refine br (fun hg3 => ?y3) (fun hg3 => ?n3)
  case' n2 =>
   refine brF ?_
 case' n1 =>
  refine brF ?_
  refine brF ?_
 all_goals (refine x_ret ?_; simp only [fitsL, fits, C.asD, and_true] <;> (refine scb ?_; unfold tagB; first | (simp_all; done) | (simp_all; omega) | (rw [Bool.eq_iff_iff]; simp_all <;> omega)))

set_option maxHeartbeats 1000000 in
theorem less_tag (a b : TagD) : Contract Try.prog 122 [tD a, tD b] [.d (.sc (.bool (lessT a b)))] := by
 refine T.fn [] Try.func122 ?_
 refine br (fun hc1 => ?y1) (fun hc1 => ?n1)
 all_goals (refine x_ret ?_; simp only [fitsL, fits, C.asD, and_true] <;> (refine scb ?_; unfold lessT; first | (simp_all; done) | (rw [Bool.eq_iff_iff]; (split <;> simp_all) <;> omega) | (simp_all <;> omega)))

set_option maxHeartbeats 1000000 in
theorem root_any  : Contract Try.prog 95 [] [.d (tD noTag)] := by
 refine T.fn [] Try.func95 ?_
 all_goals (refine x_ret ?_; simp only [fitsL, fits, C.asD, and_true] <;> (rfl))
end Go.Vm
end
section
namespace Go.Vm
open Go.RowKit Go.Proofs
set_option linter.unusedVariables false
set_option linter.unusedSimpArgs false
set_option maxRecDepth 10000

set_option maxHeartbeats 1000000 in
theorem schemaRoot_any  : Contract Try.prog 123 [] [.d (.row (rootS.map fD))] := by
 refine T.fn [] Try.func123 ?_
 all_goals (refine x_ret ?_; simp only [fitsL, fits, C.asD, and_true] <;> (rfl))

set_option maxHeartbeats 1000000 in
theorem at_any (t m : Nat) (ht : NAM ≤ t) (hm : NAM ≤ m) (htm : ¬ t = m) (l : List (TagD × NodeD)) (id : TagD) : ContractH Try.prog 96 [.ptr t 0, tD id] [(t, .obj [.mp m]), (m, .mapo (ents l))] [.d (nD (atT l id))] [(t, .obj [.mp m]), (m, .mapo (ents l))] := by
 refine T.fnH [15] Try.func96 ?_ (by simp only [List.forall_mem_cons, List.not_mem_nil, false_implies, implies_true, and_true]; exact ⟨ht, hm⟩) (by simp [thing]) (by simp [thing])
 have hmt : ¬ m = t := fun e => htm e.symm
 refine And.intro ⟨T.mixed, by decide +kernel⟩ ?_
 refine x_call T.en_95 (root_any) ?_
 first | refine xeq_56e _ _ ?_ | refine xeq_56e _ noTag ?_ | refine xeq_56e noTag _ ?_
 refine br (fun hc1 => ?y1) (fun hc1 => ?n1)
 case' y1 =>
  refine x_call T.en_123 (schemaRoot_any) ?_
 case' n1 =>
  refine And.intro ⟨T.mixed, by decide +kernel⟩ ?_
  refine x_obj ht (by first | rfl | (simp only [hOf, hset, hpost, htm, hmt, if_true, if_false, not_false_eq_true]; first | done | rfl)) ?_
  refine q_look ?_ ⟨hm, (by first | rfl | (simp only [hOf, hset, hpost, htm, hmt, if_true, if_false, not_false_eq_true]; first | done | rfl))⟩ tagKey ⟨_, rfl⟩ (ents_keys _) Try.underlying118 zeroNode (look_node _ _)
 all_goals (refine ⟨?_, ⟨⟨ht, (by first | rfl | (simp only [hOf, hset, hpost, htm, hmt, if_true, if_false, not_false_eq_true]; first | done | rfl))⟩, ⟨hm, (by first | rfl | (simp only [hOf, hset, hpost, htm, hmt, if_true, if_false, not_false_eq_true]; first | done | rfl))⟩, trivial⟩⟩; simp only [fitsL, fits, C.asD, and_true] <;> (first | (rw [at_root (by assumption)]; rfl) | (rw [at_other (by assumption)]; rfl)))
end Go.Vm
end
section
namespace Go.Vm
open Go.RowKit Go.Proofs
set_option linter.unusedVariables false
set_option linter.unusedSimpArgs false
set_option maxRecDepth 10000

set_option maxHeartbeats 1000000 in
theorem state_any (t m : Nat) (ht : NAM ≤ t) (hm : NAM ≤ m) (htm : ¬ t = m) (l : List (TagD × NodeD)) (id : TagD) : ContractH Try.prog 38 [.ptr t 0, tD id] [(t, .obj [.mp m]), (m, .mapo (ents l))] [.d (.sc (.int .i64 (atT l id).state))] [(t, .obj [.mp m]), (m, .mapo (ents l))] := by
 refine T.fnH [9] Try.func38 ?_ (by simp only [List.forall_mem_cons, List.not_mem_nil, false_implies, implies_true, and_true]; exact ⟨ht, hm⟩) (by simp [thing]) (by simp [thing])
 have hmt : ¬ m = t := fun e => htm e.symm
 first | refine And.intro ⟨_, Try.underlying59⟩ ?_ | refine x_bin rfl rfl ?_
 refine brF ?_
 refine x_callR T.en_96 (at_any t m ht hm htm l id) ?_ ⟨⟨ht, (by first | rfl | (simp only [hOf, hset, hpost, htm, hmt, if_true, if_false, not_false_eq_true]; first | done | rfl))⟩, ⟨hm, (by first | rfl | (simp only [hOf, hset, hpost, htm, hmt, if_true, if_false, not_false_eq_true]; first | done | rfl))⟩, trivial⟩
 refine x_field Try.underlying123 rfl (T.k_3).1 ?_
 all_goals (refine ⟨?_, ⟨⟨ht, (by first | rfl | (simp only [hOf, hset, hpost, htm, hmt, if_true, if_false, not_false_eq_true]; first | done | rfl))⟩, ⟨hm, (by first | rfl | (simp only [hOf, hset, hpost, htm, hmt, if_true, if_false, not_false_eq_true]; first | done | rfl))⟩, trivial⟩⟩; simp only [fitsL, fits, C.asD, and_true] <;> (rfl))

set_option maxHeartbeats 1000000 in
theorem depth_any (t m : Nat) (ht : NAM ≤ t) (hm : NAM ≤ m) (htm : ¬ t = m) (l : List (TagD × NodeD)) (id : TagD) : ContractH Try.prog 86 [.ptr t 0, tD id] [(t, .obj [.mp m]), (m, .mapo (ents l))] [.d (.sc (.int .i64 (if (atT l id).state = 2 then (atT l id).depth else -1)))] [(t, .obj [.mp m]), (m, .mapo (ents l))] := by
 refine T.fnH [10] Try.func86 ?_ (by simp only [List.forall_mem_cons, List.not_mem_nil, false_implies, implies_true, and_true]; exact ⟨ht, hm⟩) (by simp [thing]) (by simp [thing])
 have hmt : ¬ m = t := fun e => htm e.symm
 first | refine And.intro ⟨_, Try.underlying59⟩ ?_ | refine x_bin rfl rfl ?_
 refine brF ?_
 refine x_callR T.en_96 (at_any t m ht hm htm l id) ?_ ⟨⟨ht, (by first | rfl | (simp only [hOf, hset, hpost, htm, hmt, if_true, if_false, not_false_eq_true]; first | done | rfl))⟩, ⟨hm, (by first | rfl | (simp only [hOf, hset, hpost, htm, hmt, if_true, if_false, not_false_eq_true]; first | done | rfl))⟩, trivial⟩
 refine br (fun hc2 => ?y2) (fun hc2 => ?n2)
 all_goals (refine ⟨?_, ⟨⟨ht, (by first | rfl | (simp only [hOf, hset, hpost, htm, hmt, if_true, if_false, not_false_eq_true]; first | done | rfl))⟩, ⟨hm, (by first | rfl | (simp only [hOf, hset, hpost, htm, hmt, if_true, if_false, not_false_eq_true]; first | done | rfl))⟩, trivial⟩⟩; simp only [fitsL, fits, C.asD, and_true] <;> (first | (rw [if_pos (by assumption)]; done) | (rw [if_neg (by assumption)]; done) | simp_all))

set_option maxHeartbeats 1000000 in
theorem schema_any (t m : Nat) (ht : NAM ≤ t) (hm : NAM ≤ m) (htm : ¬ t = m) (l : List (TagD × NodeD)) (id : TagD) (ho : okL (atT l id).schema) : ContractH Try.prog 36 [.ptr t 0, tD id] [(t, .obj [.mp m]), (m, .mapo (ents l))] [.d (.row ((if (atT l id).state = 2 then (atT l id).schema else []).map fD)), .d (.sc (.int .i64 (if (atT l id).state = 2 then 0 else if (atT l id).state = 3 then 16 else 13)))] [(t, .obj [.mp m]), (m, .mapo (ents l))] := by
 refine T.fnH [11] Try.func36 ?_ (by simp only [List.forall_mem_cons, List.not_mem_nil, false_implies, implies_true, and_true]; exact ⟨ht, hm⟩) (by simp [thing]) (by simp [thing])
 have hmt : ¬ m = t := fun e => htm e.symm
 first | refine And.intro ⟨_, Try.underlying59⟩ ?_ | refine x_bin rfl rfl ?_
 refine brF ?_
 refine x_callR T.en_96 (at_any t m ht hm htm l id) ?_ ⟨⟨ht, (by first | rfl | (simp only [hOf, hset, hpost, htm, hmt, if_true, if_false, not_false_eq_true]; first | done | rfl))⟩, ⟨hm, (by first | rfl | (simp only [hOf, hset, hpost, htm, hmt, if_true, if_false, not_false_eq_true]; first | done | rfl))⟩, trivial⟩
 refine br (fun hc2 => ?y2) (fun hc2 => ?n2)
 case' y2 =>
  refine x_call T.en_97 (schemaOwn_any _ ho) ?_
 case' n2 =>
  refine br (fun hc3 => ?y3) (fun hc3 => ?n3)
 all_goals (refine ⟨?_, ⟨⟨ht, (by first | rfl | (simp only [hOf, hset, hpost, htm, hmt, if_true, if_false, not_false_eq_true]; first | done | rfl))⟩, ⟨hm, (by first | rfl | (simp only [hOf, hset, hpost, htm, hmt, if_true, if_false, not_false_eq_true]; first | done | rfl))⟩, trivial⟩⟩; simp only [fitsL, fits, C.asD, and_true] <;> (simp_all))
end Go.Vm
end
section
namespace Go.Vm
set_option linter.unusedVariables false
set_option linter.unusedSimpArgs false

/-- The number of a tag's edge, or -1. -/
def atN (id : TagD) : Nat → List EdgeD → Int
  | _, [] => -1
  | k, e :: l => if e.id = id then (k : Int) else atN id (k + 1) l
def atE (E : List EdgeD) (id : TagD) : Int := atN id 0 E
theorem drop_atE {α : Type} {l : List α} {k : Nat} {x : α} (h : l[k]? = some x) : l.drop k = x :: l.drop (k + 1) := by
  obtain ⟨h1, h2⟩ := List.getElem?_eq_some_iff.1 h
  rw [List.drop_eq_getElem_cons h1, h2]
theorem atN_yes {id : TagD} {E : List EdgeD} {k : Nat} {e : EdgeD} (h : E[k]? = some e) (he : e.id = id) : atN id k (E.drop k) = k := by rw [drop_atE h, atN, if_pos he]
theorem atN_no {id : TagD} {E : List EdgeD} {k : Nat} {e : EdgeD} (h : E[k]? = some e) (he : ¬ e.id = id) : atN id k (E.drop k) = atN id (k + 1) (E.drop (k + 1)) := by rw [drop_atE h, atN, if_neg he]
theorem atN_end {id : TagD} {E : List EdgeD} {k : Nat} (h : E.length ≤ k) : atN id k (E.drop k) = -1 := by rw [List.drop_eq_nil_of_le h]; rfl
theorem atN_cases (id : TagD) : ∀ (k : Nat) (E : List EdgeD), (E.find? (fun e => decide (e.id = id)) = none ∧ atN id k E = -1) ∨ ∃ j e, E[j]? = some e ∧ E.find? (fun e => decide (e.id = id)) = some e ∧ atN id k E = ((k + j : Nat) : Int)
  | _, [] => .inl ⟨rfl, rfl⟩
  | k, e :: E => by
    by_cases h : e.id = id
    · refine .inr ⟨0, e, rfl, by simp [h], ?_⟩
      rw [atN, if_pos h]; simp
    · rcases atN_cases id (k + 1) E with ⟨h1, h2⟩ | ⟨j, x, h1, h2, h3⟩
      · exact .inl ⟨by simp [h]; simpa using h1, by rw [atN, if_neg h]; exact h2⟩
      · refine .inr ⟨j + 1, x, by simpa using h1, ?_, by rw [atN, if_neg h, h3]; congr 1; omega⟩
        rw [List.find?_cons_of_neg (by simpa using h)]; exact h2
theorem atE_cases (E : List EdgeD) (id : TagD) : (edgeOf E id = none ∧ atE E id = -1) ∨ ∃ (j : Nat) (e : EdgeD), E[j]? = some e ∧ edgeOf E id = some e ∧ atE E id = (j : Int) := by
  rcases atN_cases id 0 E with h | ⟨j, e, h1, h2, h3⟩
  · exact .inl h
  · exact .inr ⟨j, e, h1, h2, by unfold atE; simpa using h3⟩
theorem atE_miss {E : List EdgeD} {id : TagD} (h : atE E id < 0) : edgeOf E id = none := by
  rcases atE_cases E id with h1 | ⟨j, e, h1, h2, h3⟩
  · exact h1.1
  · omega
theorem atE_hit {E : List EdgeD} {id : TagD} (h : ¬ atE E id < 0) : ∃ (j : Nat) (e : EdgeD), E[j]? = some e ∧ edgeOf E id = some e ∧ atE E id = (j : Int) := by
  rcases atE_cases E id with h1 | h1
  · omega
  · exact h1

/-! ### Ways -/
def wayN : Nat → List EdgeD → TagD → Option (List EdgeD)
  | 0, _, _ => none
  | n + 1, E, id => if id = noTag then some [] else match edgeOf E id with
    | none => none
    | some e => (wayN n E e.parent).map (· ++ [e])
def wayOf (E : List EdgeD) (id : TagD) : Option (List EdgeD) := wayN (E.length + 1) E id
theorem way_root {n : Nat} {E : List EdgeD} {id : TagD} (h : id = noTag) : wayN (n + 1) E id = some [] := by simp [wayN, h]
theorem way_none {n : Nat} {E : List EdgeD} {id : TagD} (h : ¬ id = noTag) (he : edgeOf E id = none) : wayN (n + 1) E id = none := by simp [wayN, h, he]
theorem way_some {n : Nat} {E : List EdgeD} {id : TagD} {e : EdgeD} (h : ¬ id = noTag) (he : edgeOf E id = some e) : wayN (n + 1) E id = (wayN n E e.parent).map (· ++ [e]) := by simp [wayN, h, he]
/-- What comes of a way. -/
def foldW (w : List EdgeD) : Came := w.foldl (fun r e => stepC r e.lens) (2, rootS, 0)
theorem way_comes : ∀ (n : Nat) (E : List EdgeD) (id : TagD), match wayN n E id with
    | some w => comes n E id = foldW w
    | none => (comes n E id).1 = 0 ∨ (comes n E id).1 = 1
  | 0, E, id => .inr rfl
  | n + 1, E, id => by
    by_cases h0 : id = noTag
    · rw [way_root h0]; subst h0; rw [comes_root]; rfl
    · cases he : edgeOf E id with
      | none => rw [way_none h0 he, comes_none h0 he]; exact .inl rfl
      | some e =>
        rw [way_some h0 he, comes_succ h0 he]
        have ih := way_comes n E e.parent
        cases hw : wayN n E e.parent with
        | some w =>
          rw [hw] at ih
          simp only [Option.map_some] at ih ⊢
          rw [ih]; simp [foldW]
        | none =>
          rw [hw] at ih
          simp only [Option.map_none] at ih ⊢
          refine .inr ?_
          unfold stepC
          rw [if_neg (by omega), if_neg (by omega)]
theorem fold_done (w : List EdgeD) : doneB (foldW w) = true := by
  suffices h : ∀ (r : Came), doneB r = true → doneB (w.foldl (fun r e => stepC r e.lens) r) = true from h _ rfl
  induction w with
  | nil => intro r h; exact h
  | cons e w ih => intro r h; exact ih _ (step_of_done h)
/-- What the document's answer says of a tag: its state, and its schema. -/
theorem state_none {E : List EdgeD} {id : TagD} (h0 : ¬ id = noTag) (h : edgeOf E id = none) : (cameOf E id).1 = 0 ∧ (cameOf E id).2.1 = [] := by rw [came_none h0 h]; exact ⟨rfl, rfl⟩
theorem state_way {E : List EdgeD} {id : TagD} (h : id = noTag ∨ ¬ edgeOf E id = none) (hw : wayOf E id = none) : (cameOf E id).1 = 1 ∧ (cameOf E id).2.1 = [] := by
  by_cases h0 : id = noTag
  · subst h0; simp [wayOf, way_root] at hw
  · cases he : edgeOf E id with
    | none => exact absurd he (h.resolve_left h0)
    | some e =>
      have := way_comes (E.length + 1) E id
      unfold wayOf at hw
      rw [hw, comes_succ h0 he] at this
      simp only at this
      unfold cameOf
      rw [comes_succ h0 he]
      unfold stepC at this ⊢
      split at this
      · split at this <;> simp at this
      · rename_i h2
        rw [if_neg h2] at ⊢
        split at this
        · simp at this
        · rename_i h3; rw [if_neg h3]; exact ⟨rfl, rfl⟩
theorem state_some {E : List EdgeD} {id : TagD} {w : List EdgeD} (hw : wayOf E id = some w) : cameOf E id = foldW w := by
  have := way_comes (E.length + 1) E id
  unfold wayOf at hw
  rw [hw] at this
  exact this
theorem fold3 (r : Came) (h : r.1 = 3) : ∀ (w : List EdgeD), (w.foldl (fun r e => stepC r e.lens) r).1 = 3 ∧ (w = [] ∨ (w.foldl (fun r e => stepC r e.lens) r).2.1 = [])
  | [] => ⟨h, .inl rfl⟩
  | e :: w => by
    have hs : stepC r e.lens = (3, [], 0) := by unfold stepC; rw [if_neg (by omega), if_pos h]
    simp only [List.foldl_cons, hs]
    have h3 := fold3 (3, [], 0) rfl w
    refine ⟨h3.1, .inr ?_⟩
    rcases h3.2 with rfl | h4
    · rfl
    · exact h4
theorem fold_take {w : List EdgeD} {k : Nat} {e : EdgeD} (h : w[k]? = some e) : foldW (w.take (k + 1)) = stepC (foldW (w.take k)) e.lens := by
  unfold foldW
  rw [List.take_add_one, h, List.foldl_append]; rfl
theorem fold_stop {w : List EdgeD} {k : Nat} {e : EdgeD} {s : List FieldD} {d : Int} (h : w[k]? = some e) (hr : foldW (w.take k) = (2, s, d)) (hs : ¬ (applyS s e.lens).2 = 0) : (foldW w).1 = 3 ∧ (foldW w).2.1 = [] := by
  have h1 : foldW (w.take (k + 1)) = (3, [], 0) := by rw [fold_take h, hr]; unfold stepC; rw [if_pos rfl, if_neg hs]
  have h2 : foldW w = (w.drop (k + 1)).foldl (fun r e => stepC r e.lens) (3, [], 0) := by
    rw [← h1]; unfold foldW
    conv => lhs; rw [← List.take_append_drop (k + 1) w, List.foldl_append]
  rw [h2]
  have h3 := fold3 (3, [], 0) rfl (w.drop (k + 1))
  refine ⟨h3.1, ?_⟩
  rcases h3.2 with h4 | h4
  · rw [h4]; rfl
  · exact h4
theorem fold_go {w : List EdgeD} {k : Nat} {e : EdgeD} {s : List FieldD} {d : Int} (h : w[k]? = some e) (hr : foldW (w.take k) = (2, s, d)) (hs : (applyS s e.lens).2 = 0) : foldW (w.take (k + 1)) = (2, (applyS s e.lens).1, d + 1) := by
  rw [fold_take h, hr]; unfold stepC; rw [if_pos rfl, if_pos hs]
theorem fold_okL {w : List EdgeD} (hok : ∀ e ∈ w, okX e.lens) : okL (foldW w).2.1 := by
  suffices h : ∀ (r : Came), okL r.2.1 → okL (w.foldl (fun r e => stepC r e.lens) r).2.1 from h _ okL_root
  induction w with
  | nil => intro r h; exact h
  | cons e w ih =>
    intro r h
    refine ih (fun x hx => hok x (List.mem_cons_of_mem _ hx)) _ ?_
    show okL (stepC r e.lens).2.1
    unfold stepC
    split
    · split
      · exact okL_apply h (hok e (List.mem_cons_self ..))
      · exact okL_nil
    · split <;> exact okL_nil
theorem fold_depth : ∀ (w : List EdgeD) (r : Came), r.1 = 2 → (w.foldl (fun r e => stepC r e.lens) r).1 = 2 → (w.foldl (fun r e => stepC r e.lens) r).2.2 = r.2.2 + w.length
  | [], r, _, _ => by simp
  | e :: w, r, h, h2 => by
    simp only [List.foldl_cons] at h2 ⊢
    by_cases hs : (applyS r.2.1 e.lens).2 = 0
    · have e1 : stepC r e.lens = (2, (applyS r.2.1 e.lens).1, r.2.2 + 1) := by unfold stepC; rw [if_pos h, if_pos hs]
      rw [e1] at h2 ⊢
      rw [fold_depth w _ rfl h2]; simp; omega
    · have e1 : stepC r e.lens = (3, [], 0) := by unfold stepC; rw [if_pos h, if_neg hs]
      rw [e1] at h2
      have := (fold3 (3, [], 0) rfl w).1
      omega
/-- A live tag's way, and how deep it is. -/
theorem live_way {E : List EdgeD} {id : TagD} (h : (cameOf E id).1 = 2) : ∃ w, wayOf E id = some w ∧ (cameOf E id).2.2 = (w.length : Int) := by
  cases hw : wayOf E id with
  | some w =>
    refine ⟨w, rfl, ?_⟩
    have e := state_some hw
    rw [e] at h ⊢
    have := fold_depth w (2, rootS, 0) rfl h
    unfold foldW; rw [this]; simp
  | none =>
    have := way_comes (E.length + 1) E id
    unfold wayOf at hw
    rw [hw] at this
    unfold cameOf at h
    simp only at this
    omega
theorem way_mem : ∀ {n : Nat} {E : List EdgeD} {id : TagD} {w : List EdgeD}, wayN n E id = some w → ∀ e ∈ w, e ∈ E
  | 0, _, _, _, h => by cases h
  | n + 1, E, id, w, h => by
    by_cases h0 : id = noTag
    · rw [way_root h0] at h; injection h with h; subst h; simp
    · cases he : edgeOf E id with
      | none => rw [way_none h0 he] at h; cases h
      | some x =>
        rw [way_some h0 he] at h
        obtain ⟨v, hv, rfl⟩ := Option.map_eq_some_iff.1 h
        intro e hm
        rcases List.mem_append.1 hm with hm | hm
        · exact way_mem hv e hm
        · rw [List.mem_singleton.1 hm]; exact (edge_mem he).1
theorem way_len : ∀ {n : Nat} {E : List EdgeD} {id : TagD} {w : List EdgeD}, wayN n E id = some w → w.length < n
  | 0, _, _, _, h => by cases h
  | n + 1, E, id, w, h => by
    by_cases h0 : id = noTag
    · rw [way_root h0] at h; injection h with h; subst h; simp
    · cases he : edgeOf E id with
      | none => rw [way_none h0 he] at h; cases h
      | some x =>
        rw [way_some h0 he] at h
        obtain ⟨v, hv, rfl⟩ := Option.map_eq_some_iff.1 h
        have := way_len hv
        simp; omega

/-! ### Sorting as the document's answer does it -/
theorem insE_at (e : EdgeD) : ∀ (l : List EdgeD) (j : Nat), j ≤ l.length → (∀ i x, i < j → l[i]? = some x → lessT x.id e.id = true) → (∀ x, l[j]? = some x → lessT x.id e.id = false) → l.take j ++ e :: l.drop j = insE e l
  | [], j, hj, _, _ => by
    obtain rfl : j = 0 := by simpa using hj
    rfl
  | x :: l, 0, _, _, h2 => by
    have := h2 x rfl
    simp [insE, this]
  | x :: l, j + 1, hj, h1, h2 => by
    have hx := h1 0 x (by omega) rfl
    simp only [List.take_succ_cons, List.drop_succ_cons, List.cons_append, insE, hx, if_true]
    rw [insE_at e l j (by simpa using hj) (fun i y hi hy => h1 (i + 1) y (by omega) (by simpa using hy)) (fun y hy => h2 y (by simpa using hy))]
theorem sortE_take {E : List EdgeD} {k : Nat} {e : EdgeD} (h : E[k]? = some e) : sortE (E.take (k + 1)) = insE e (sortE (E.take k)) := by
  unfold sortE
  rw [List.take_add_one, h, List.foldl_append]; rfl
theorem sortE_len (E : List EdgeD) : (sortE E).length = E.length := (sortE_perm E).length_eq
/-- The edges that are taken, one behind the other. -/
def growE (l : List EdgeD) : List EdgeD := l.foldl (fun E e => (putE E e).1) []
theorem growE_take {l : List EdgeD} {k : Nat} {e : EdgeD} (h : l[k]? = some e) : growE (l.take (k + 1)) = (putE (growE (l.take k)) e).1 := by
  unfold growE
  rw [List.take_add_one, h, List.foldl_append]; rfl
theorem put_len {E : List EdgeD} {e : EdgeD} (h : E.length ≤ 40) : (putE E e).1.length ≤ 40 := by
  unfold putE
  split
  · exact h
  · split
    · split <;> exact h
    · split
      · exact h
      · simp; omega
theorem good_empty : Good [] := ⟨by simp, by simp, .nil⟩
theorem grow_good {l : List EdgeD} (hok : ∀ e ∈ l, okX e.lens) : Good (growE l) ∧ (growE l).length ≤ 40 := by
  suffices h : ∀ E, Good E → E.length ≤ 40 → Good (l.foldl (fun E e => (putE E e).1) E) ∧ (l.foldl (fun E e => (putE E e).1) E).length ≤ 40 from h [] good_empty (by simp)
  induction l with
  | nil => intro E h1 h2; exact ⟨h1, h2⟩
  | cons e l ih =>
    intro E h1 h2
    exact ih (fun x hx => hok x (List.mem_cons_of_mem _ hx)) _ (h1.put (hok e (List.mem_cons_self ..))) (put_len h2)
theorem rightL_kind {x : LensD} (h : rightL x = true) : 1 ≤ x.kind := by
  unfold rightL at h
  split at h
  · omega
  · simp only [Bool.and_eq_true] at h
    have h := h.2
    split at h
    · omega
    · simp only [Bool.and_eq_true] at h
      have h := h.2
      split at h
      · omega
      · simp only [Bool.and_eq_true] at h
        have h := h.2
        split at h
        · omega
        · simp only [Bool.and_eq_true] at h
          have h := h.2
          split at h
          · omega
          · split at h
            · omega
            · split at h
              · omega
              · cases h
theorem edgeB_ref (e : EdgeD) : edgeB e = (tagB e.id && (decide (e.parent = noTag) || tagB e.parent) && !decide (e.id = e.parent) && rightL e.lens && decide (e.lens.kind < 9)) := by
  unfold edgeB
  cases h1 : tagB e.id with
  | false => rfl
  | true =>
    have hr := tag_real h1
    cases h2 : rightL e.lens with
    | false => simp
    | true =>
      have hk := rightL_kind h2
      by_cases h3 : e.parent = noTag
      · have h5 : ¬ e.id = e.parent := by rw [h3]; exact hr
        rw [decide_eq_true h3, decide_eq_false h5]
        rw [Bool.eq_iff_iff]; simp only [Bool.true_and, Bool.true_or, Bool.and_true, Bool.not_false, Bool.and_eq_true, decide_eq_true_eq]; omega
      · rw [decide_eq_false h3]
        by_cases h4 : e.id = e.parent
        · rw [decide_eq_true h4, decide_eq_true h4.symm]; simp
        · have h5 : ¬ e.parent = e.id := fun h => h4 h.symm
          rw [decide_eq_false h4, decide_eq_false h5]
          cases tagB e.parent <;> (rw [Bool.eq_iff_iff]; simp only [Bool.true_and, Bool.false_or, Bool.and_true, Bool.not_false, Bool.and_eq_true, decide_eq_true_eq, Bool.false_and, Bool.and_false, Bool.false_eq_true, false_and, and_false]; try omega)
end Go.Vm
end
section
namespace Go.Vm
open Go.RowKit Go.Proofs
set_option linter.unusedVariables false
set_option linter.unusedSimpArgs false
set_option maxRecDepth 10000

set_option maxHeartbeats 1000000 in
theorem edge_any (e : EdgeD) (he : okX e.lens) : Contract Try.prog 87 [eD e] [.d (.sc (.bool (edgeB e)))] := by
 refine T.fn [] Try.func87 ?_
 refine x_call T.en_119 (tag_any _) ?_
 refine br (fun hc1 => ?y1) (fun hc1 => ?n1)
 case' n1 =>
  refine And.intro ⟨T.mixed, by decide +kernel⟩ ?_
  refine x_call T.en_95 (root_any) ?_
  first | refine xeq_56n _ _ ?_ | refine xeq_56n _ noTag ?_ | refine xeq_56n noTag _ ?_
  refine br (fun hg2 => ?y2) (fun hg2 => ?n2)
  case' y2 =>
   refine x_call T.en_119 (tag_any _) ?_
   refine br (fun hg3 => ?y3) (fun hg3 => ?n3)
   case' y3 =>
    refine brT ?_
   case' n3 =>
    first | refine xeq_56e _ _ ?_ | refine xeq_56e _ noTag ?_ | refine xeq_56e noTag _ ?_
    refine br (fun hc5 => ?y5) (fun hc5 => ?n5)
    case' n5 =>
     refine br (fun hg6 => ?y6) (fun hg6 => ?n6)
     case' y6 =>
      refine br (fun hg7 => ?y7) (fun hg7 => ?n7)
      case' y7 =>
       refine x_call T.en_9 (lensRight_any _ he) ?_
     case' n6 =>
      refine brF ?_
  case' n2 =>
   refine brF ?_
   refine br (fun hg10 => ?y10) (fun hg10 => ?n10)
   case' y10 =>
    refine br (fun hg11 => ?y11) (fun hg11 => ?n11)
    case' y11 =>
     refine x_call T.en_9 (lensRight_any _ he) ?_
   case' n10 =>
    refine brF ?_
 all_goals (refine x_ret ?_; simp only [fitsL, fits, C.asD, and_true] <;> (refine scb ?_; unfold edgeB; first | (simp_all; done) | (rw [Bool.eq_iff_iff]; simp_all <;> omega)))

set_option maxHeartbeats 1000000 in
theorem same_any (e f : EdgeD) (he : okX e.lens) : Contract Try.prog 88 [eD e, eD f] [.d (.sc (.bool (decide (e = f))))] := by
 refine T.fn [] Try.func88 ?_
 first | refine xeq_56e _ _ ?_ | refine xeq_56e _ noTag ?_ | refine xeq_56e noTag _ ?_
 refine br (fun hg1 => ?y1) (fun hg1 => ?n1)
 case' y1 =>
  first | refine xeq_56e _ _ ?_ | refine xeq_56e _ noTag ?_ | refine xeq_56e noTag _ ?_
  refine br (fun hg2 => ?y2) (fun hg2 => ?n2)
  case' y2 =>
   refine x_call T.en_10 (lensSame_any _ _ he) ?_
 case' n1 =>
  refine brF ?_
 all_goals (refine x_ret ?_; simp only [fitsL, fits, C.asD, and_true] <;> (refine scb ?_; clear he; cases e; cases f; simp_all))

set_option maxHeartbeats 1000000 in
theorem own_any (e : EdgeD) (he : okX e.lens) : Contract Try.prog 89 [eD e] [.d (eD e)] := by
 refine T.fn [] Try.func89 ?_
 refine And.intro ⟨T.mixed, by decide +kernel⟩ ?_
 refine x_call T.en_17 (lensOwn_any _ he) ?_
 all_goals (refine x_ret ?_; simp only [fitsL, fits, C.asD, and_true] <;> (rfl))
end Go.Vm
end
section
namespace Go.Vm
open Go.RowKit Go.Proofs
set_option linter.unusedVariables false
set_option linter.unusedSimpArgs false
set_option maxRecDepth 10000

theorem eD_wide {e : EdgeD} : ∀ x ∈ [eD e], x.cells.length = 20 := by intro x hx; rw [List.mem_singleton.1 hx]; rfl
theorem eDs_wide (E : List EdgeD) : ∀ x ∈ E.map eD, x.cells.length = 20 := by intro x hx; obtain ⟨e, _, rfl⟩ := List.mem_map.1 hx; rfl
theorem tD_wide {e : TagD} : ∀ x ∈ [tD e], x.cells.length = 2 := by intro x hx; rw [List.mem_singleton.1 hx]; rfl
theorem tDs_wide (E : List TagD) : ∀ x ∈ E.map tD, x.cells.length = 2 := by intro x hx; obtain ⟨e, _, rfl⟩ := List.mem_map.1 hx; rfl
theorem at_ix {E : List EdgeD} {j : Nat} {p : EdgeD} {a : Int} (hp : E[j]? = some p) (ha : a = (j : Int)) : (E.map eD)[a.toNat]? = some (eD p) := by rw [ha, Int.toNat_natCast]; exact mapAt hp
theorem slice_drop {α : Type} {f : α → D} {l : List α} {j : Nat} : ((l.map f).take (l.map f).length).drop j = (l.drop j).map f := by rw [List.take_of_length_le (by simp), List.map_drop]
def heavyE (m : Nat) (E : List EdgeD) : Bool := decide (m < E.length) || E.any fun e => heavyL e.lens
theorem heavyE_ok {m : Nat} {E : List EdgeD} (h : heavyE m E = false) : E.length ≤ m ∧ ∀ e ∈ E, okX e.lens := by
  unfold heavyE at h
  simp only [Bool.or_eq_false_iff, decide_eq_false_iff_not] at h
  refine ⟨by omega, fun e he => ?_⟩
  have := List.any_eq_false.1 h.2 e he
  exact heavyL_ok (by simpa using this)
theorem live_take {E : List EdgeD} {q : EdgeD → Bool} {k : Nat} {p : EdgeD} (hp : E[k]? = some p) : noTag :: ((E.take (k + 1)).filter q).map (·.id) = (noTag :: ((E.take k).filter q).map (·.id)) ++ (if q p = true then [p.id] else []) := by
  rw [take_next hp, List.filter_append, List.map_append]
  cases h : q p <;> simp [h]
def liveE (E : List EdgeD) : List TagD := noTag :: ((sortE E).filter fun e => decide ((cameOf E e.id).1 = 2)).map (·.id)

set_option maxHeartbeats 1000000 in
theorem refSame_any (e f : EdgeD) (he : okX e.lens) : Contract Try.prog 91 [eD e, eD f] [.d (.sc (.bool (decide (e = f))))] := by
 refine T.fn [] Try.func91 ?_
 first | refine xeq_56e _ _ ?_ | refine xeq_56e _ noTag ?_ | refine xeq_56e noTag _ ?_
 refine br (fun hg1 => ?y1) (fun hg1 => ?n1)
 case' y1 =>
  first | refine xeq_56e _ _ ?_ | refine xeq_56e _ noTag ?_ | refine xeq_56e noTag _ ?_
  refine br (fun hg2 => ?y2) (fun hg2 => ?n2)
  case' y2 =>
   refine x_call T.en_11 (refLensSame_any _ _ he) ?_
 case' n1 =>
  refine brF ?_
 all_goals (refine x_ret ?_; simp only [fitsL, fits, C.asD, and_true] <;> (refine scb ?_; clear he; cases e; cases f; simp_all))

set_option maxHeartbeats 1000000 in
theorem refAt_any (E : List EdgeD) (id : TagD) (hE : E.length ≤ 1000) : Contract Try.prog 28 [.row (E.map eD), tD id] [.d (.sc (.int .i64 (atE E id)))] := by
 refine T.fn [] Try.func28 ?_
 refine xloopR (fb := []) T.ok (Nat.le_of_ble_eq_true rfl) [0, 3] (fun (k : Nat) => [(5, .c (.d (.sc (.int .i64 (k : Nat)))))]) (fun k => k ≤ E.length ∧ atE E id = atN id k (E.drop k)) (fun k => E.length - k) 0 ⟨Nat.zero_le _, rfl⟩ (x_ent (by first | rfl | (simp only [Tr.get]; simp; done)) trivial) ?_
 rintro k ⟨hk, hi⟩
 refine x_len ?_
 refine br (fun hc1 => ?y1) (fun hc1 => ?n1)
 case' y1 =>
  obtain ⟨p, hp⟩ := elem_at hc1
  have hkl := lt_len hp
  refine And.intro ⟨T.mixed, by decide +kernel⟩ ?_
  first | refine x_ix (by exact mapAt hp) ?_ | refine x_ixI (by exact mapAt hp) ?_
  first | refine xeq_56e _ _ ?_ | refine xeq_56e _ noTag ?_ | refine xeq_56e noTag _ ?_
  refine br (fun hc2 => ?y2) (fun hc2 => ?n2)
  case' n2 =>
   first | refine x_inc ?_ | refine x_add ?_ | refine x_bin rfl rfl ?_
   refine x_rnd (k + 1) ⟨lt_len hp, hi.trans (atN_no hp (by assumption))⟩ (by (try dsimp only); have := lt_len hp; omega) rfl (x_ent (by first | rfl | (simp only [Tr.get]; simp; done)) trivial) rfl
 all_goals (refine x_ret ?_; simp only [fitsL, fits, C.asD, and_true] <;> (first | (rw [hi, atN_yes hp (by assumption)]) | (rw [hi, atN_end (past_end (by assumption))])))

set_option maxHeartbeats 1000000 in
theorem refHeavy_any (E : List EdgeD) (m : Nat) (hm : m ≤ 1000) : Contract Try.prog 27 [.row (E.map eD), .sc (.int .i64 (m : Nat))] [.d (.sc (.bool (heavyE m E)))] := by
 refine T.fn [] Try.func27 ?_
 refine x_len ?_
 refine br (fun hc1 => ?y1) (fun hc1 => ?n1)
 case' n1 =>
  have h40 : E.length ≤ m := by omega
  refine xloopR (fb := []) T.ok (Nat.le_of_ble_eq_true rfl) [0] (fun (k : Nat) => [(5, .c (.d (.sc (.int .i64 (k : Nat)))))]) (fun k => k ≤ E.length ∧ (E.take k).any (fun e => heavyL e.lens) = false ∧ E.length ≤ m) (fun k => E.length - k) 0 ⟨Nat.zero_le _, ⟨rfl, h40⟩⟩ (x_ent (by first | rfl | (simp only [Tr.get]; simp; done)) trivial) ?_
  rintro k ⟨hk, hi⟩
  refine x_len ?_
  refine br (fun hc2 => ?y2) (fun hc2 => ?n2)
  case' y2 =>
   obtain ⟨p, hp⟩ := elem_at hc2
   have hkl := lt_len hp
   first | refine x_ix (by exact mapAt hp) ?_ | refine x_ixI (by exact mapAt hp) ?_
   refine x_call T.en_7 (refLensHeavy_any _) ?_
   refine br (fun hc3 => ?y3) (fun hc3 => ?n3)
   case' n3 =>
    first | refine x_inc ?_ | refine x_add ?_ | refine x_bin rfl rfl ?_
    refine x_rnd (k + 1) ⟨lt_len hp, any_next hp hi.1 (by simp_all), hi.2⟩ (by (try dsimp only); have := lt_len hp; omega) rfl (x_ent (by first | rfl | (simp only [Tr.get]; simp; done)) trivial) rfl
 all_goals (refine x_ret ?_; simp only [fitsL, fits, C.asD, and_true] <;> (refine scb ?_; first | (have hh := any_hit (f := fun e : EdgeD => heavyL e.lens) hp ‹heavyL p.lens = true›; unfold heavyE; rw [hh, Bool.or_true]; done) | (have hh := any_end (past_end (by assumption)) hi.1; unfold heavyE; rw [hh, Bool.or_false]; symm; simp only [decide_eq_true_eq, decide_eq_false_iff_not, Bool.not_eq_true', Bool.not_eq_false', Bool.and_eq_true, Bool.or_eq_true, Bool.or_eq_false_iff, Bool.and_eq_false_iff, beq_iff_eq, beq_eq_false_iff_ne, ne_eq, Bool.not_true, Bool.not_false, Bool.false_eq_true, Bool.true_eq_false] at * <;> omega) | (symm; unfold heavyE; simp only [decide_eq_true_eq, decide_eq_false_iff_not, Bool.not_eq_true', Bool.not_eq_false', Bool.and_eq_true, Bool.or_eq_true, Bool.or_eq_false_iff, Bool.and_eq_false_iff, beq_iff_eq, beq_eq_false_iff_ne, ne_eq, Bool.not_true, Bool.not_false, Bool.false_eq_true, Bool.true_eq_false] at * <;> omega)))

set_option maxHeartbeats 1000000 in
theorem refSchemaRoot_any  : Contract Try.prog 40 [] [.d (.row (rootS.map fD))] := by
 refine T.fn [] Try.func40 ?_
 first | refine x_app ?_ (by first | exact wides | (simp [D.cells])) | refine x_appN ?_ (by first | exact wides | (simp [D.cells]))
 first | refine x_app ?_ (by first | exact wides | (simp [D.cells])) | refine x_appN ?_ (by first | exact wides | (simp [D.cells]))
 first | refine x_app ?_ (by first | exact wides | (simp [D.cells])) | refine x_appN ?_ (by first | exact wides | (simp [D.cells]))
 first | refine x_app ?_ (by first | exact wides | (simp [D.cells])) | refine x_appN ?_ (by first | exact wides | (simp [D.cells]))
 first | refine x_app ?_ (by first | exact wides | (simp [D.cells])) | refine x_appN ?_ (by first | exact wides | (simp [D.cells]))
 all_goals (refine x_ret ?_; simp only [fitsL, fits, C.asD, and_true] <;> (rfl))
end Go.Vm
end
section
namespace Go.Vm
open Go.RowKit Go.Proofs
set_option linter.unusedVariables false
set_option linter.unusedSimpArgs false
set_option maxRecDepth 10000
theorem first_rfl {α : Type} {a : α} : a = a := rfl

set_option maxHeartbeats 1000000 in
theorem refSameEdges_any (E F : List EdgeD) (hE : E.length ≤ 1000) (hok : ∀ e ∈ E, okX e.lens) : Contract Try.prog 32 [.row (E.map eD), .row (F.map eD)] [.d (.sc (.bool (decide (E = F))))] := by
 refine T.fn [] Try.func32 ?_
 refine x_len ?_
 refine x_len ?_
 refine br (fun hc1 => ?y1) (fun hc1 => ?n1)
 case' n1 =>
  have hlen : E.length = F.length := by omega
  refine xloopR (fb := []) T.ok (Nat.le_of_ble_eq_true rfl) [0, 1] (fun (k : Nat) => [(5, .c (.d (.sc (.int .i64 (k : Nat)))))]) (fun k => k ≤ E.length ∧ E.take k = F.take k) (fun k => E.length - k) 0 ⟨Nat.zero_le _, rfl⟩ (x_ent (by first | rfl | (simp only [Tr.get]; simp; done)) trivial) ?_
  rintro k ⟨hk, hi⟩
  refine x_len ?_
  refine br (fun hc2 => ?y2) (fun hc2 => ?n2)
  case' y2 =>
   obtain ⟨p, hp⟩ := elem_at hc2
   have hkl := lt_len hp
   obtain ⟨q, hq⟩ := elem_too hp hlen
   have hoX := hok p (List.mem_of_getElem? hp)
   refine And.intro ⟨T.mixed, by decide +kernel⟩ ?_
   first | refine x_ix (by first | exact mapAt hp | exact mapAt hq) ?_ | refine x_ixI (by first | exact mapAt hp | exact mapAt hq) ?_
   first | refine x_ix (by first | exact mapAt hp | exact mapAt hq) ?_ | refine x_ixI (by first | exact mapAt hp | exact mapAt hq) ?_
   refine x_call T.en_91 (refSame_any p q hoX) ?_
   refine br (fun hc3 => ?y3) (fun hc3 => ?n3)
   case' n3 =>
    first | refine x_inc ?_ | refine x_add ?_ | refine x_bin rfl rfl ?_
    refine x_rnd (k + 1) ⟨lt_len hp, take_eq_next hp hq hi (by simp_all)⟩ (by (try dsimp only); have := lt_len hp; omega) rfl (x_ent (by first | rfl | (simp only [Tr.get]; simp; done)) trivial) rfl
 all_goals (refine x_ret ?_; simp only [fitsL, fits, C.asD, and_true] <;> (refine scb ?_; first | exact (decide_eq_false (fun e => by simp_all)).symm | exact (decide_eq_false (ne_at hp hq (fun e => by simp_all))).symm | exact (decide_eq_true (take_eq_end hlen (past_end (by assumption)) hi)).symm))

set_option maxHeartbeats 1000000 in
theorem refSameTags_any (E F : List TagD) (hE : E.length ≤ 1001) : Contract Try.prog 34 [.row (E.map tD), .row (F.map tD)] [.d (.sc (.bool (decide (E = F))))] := by
 refine T.fn [] Try.func34 ?_
 refine x_len ?_
 refine x_len ?_
 refine br (fun hc1 => ?y1) (fun hc1 => ?n1)
 case' n1 =>
  have hlen : E.length = F.length := by omega
  refine xloopR (fb := []) T.ok (Nat.le_of_ble_eq_true rfl) [0, 1] (fun (k : Nat) => [(5, .c (.d (.sc (.int .i64 (k : Nat)))))]) (fun k => k ≤ E.length ∧ E.take k = F.take k) (fun k => E.length - k) 0 ⟨Nat.zero_le _, rfl⟩ (x_ent (by first | rfl | (simp only [Tr.get]; simp; done)) trivial) ?_
  rintro k ⟨hk, hi⟩
  refine x_len ?_
  refine br (fun hc2 => ?y2) (fun hc2 => ?n2)
  case' y2 =>
   obtain ⟨p, hp⟩ := elem_at hc2
   have hkl := lt_len hp
   obtain ⟨q, hq⟩ := elem_too hp hlen
   refine And.intro ⟨T.mixed, by decide +kernel⟩ ?_
   first | refine x_ix (by first | exact mapAt hp | exact mapAt hq) ?_ | refine x_ixI (by first | exact mapAt hp | exact mapAt hq) ?_
   first | refine x_ix (by first | exact mapAt hp | exact mapAt hq) ?_ | refine x_ixI (by first | exact mapAt hp | exact mapAt hq) ?_
   first | refine xeq_56n _ _ ?_ | refine xeq_56n _ noTag ?_ | refine xeq_56n noTag _ ?_
   refine br (fun hc3 => ?y3) (fun hc3 => ?n3)
   case' n3 =>
    first | refine x_inc ?_ | refine x_add ?_ | refine x_bin rfl rfl ?_
    refine x_rnd (k + 1) ⟨lt_len hp, take_eq_next hp hq hi (by simp_all)⟩ (by (try dsimp only); have := lt_len hp; omega) rfl (x_ent (by first | rfl | (simp only [Tr.get]; simp; done)) trivial) rfl
 all_goals (refine x_ret ?_; simp only [fitsL, fits, C.asD, and_true] <;> (refine scb ?_; first | exact (decide_eq_false (fun e => by simp_all)).symm | exact (decide_eq_false (ne_at hp hq (fun e => by simp_all))).symm | exact (decide_eq_true (take_eq_end hlen (past_end (by assumption)) hi)).symm))
end Go.Vm
end
section
namespace Go.Vm
open Go.RowKit Go.Proofs
set_option linter.unusedVariables false
set_option linter.unusedSimpArgs false
set_option maxRecDepth 10000

set_option maxHeartbeats 1000000 in
theorem tags_any (t m : Nat) (ht : NAM ≤ t) (hm : NAM ≤ m) (htm : ¬ t = m) (l : List (TagD × NodeD)) (hl : l.length ≤ 1000) (f : FuncId) (p : NodeD → Bool) (hf : enters Try.prog f = true) (hp : ∀ n, Contract Try.prog f [nD n] [.d (.sc (.bool (p n)))]) : ContractH Try.prog 92 [.ptr t 0, .fn f []] [(t, .obj [.mp m]), (m, .mapo (ents l))] [.d (.row ((tagsOf p l).map tD))] [(t, .obj [.mp m]), (m, .mapo (ents l))] := by
 refine T.fnH [12, 15, 20, 2024, 2026, 2027] Try.func92 ?_ (by simp only [List.forall_mem_cons, List.not_mem_nil, false_implies, implies_true, and_true]; exact ⟨ht, hm⟩) (by simp [thing]) (by simp [thing])
 have hmt : ¬ m = t := fun e => htm e.symm
 refine x_obj ht (by first | rfl | (simp only [hOf, hset, hpost, htm, hmt, if_true, if_false, not_false_eq_true]; first | done | rfl)) ?_
 refine x_range ?_ ⟨hm, (by first | rfl | (simp only [hOf, hset, hpost, htm, hmt, if_true, if_false, not_false_eq_true]; first | done | rfl))⟩ Try.underlying118 (ents_len _)
 refine xnilG 5 500005 2 rfl (by decide) (by decide) (by decide) (by decide) ?_
 refine xloopR (fb := [12, 15, 20, 2024, 2026, 2027]) T.ok (Nat.le_of_ble_eq_true rfl) [1] (fun (s : List Nat × List TagD) => [(12, .iter m l.length s.1), (5, .sref 500005 2 s.2.length), (500005, .gbox 2 (s.2.map tD))]) (fun s => Seen l.length s.1 ∧ s.2 = pick p (·.1) l s.1) (fun s => unseen l.length s.1) ([], []) ⟨⟨List.nodup_nil, by simp⟩, rfl⟩ (x_ent (by first | rfl | (simp only [Tr.get]; simp; done)) (x_ent (by first | rfl | (simp only [Tr.get]; simp; done)) (x_ent (by first | rfl | (simp only [Tr.get]; simp; done)) trivial))) ?_
 rintro s ⟨hse, hA⟩
 have hAl : s.2.length ≤ 1000 := by rw [hA]; exact Nat.le_trans (pick_len hse) hl
 refine Exists.intro _ (And.intro ⟨hm, (by first | rfl | (simp only [hOf, hset, hpost, htm, hmt, if_true, if_false, not_false_eq_true]; first | done | rfl)), ents_len _⟩ (And.intro (fun hd1 => ?d1) (fun iq pq hpq hiq => ?g1)))
 case' d1 =>
  have hall := hd1
  refine brF ?_
  refine x_turnG (n := s.2.length) (id := 500005) T.en_120 (tags_sort s.2 (by omega)) rfl rfl rfl (by simp) (by simp [sortT_len]) (tDs_wide _) ?_
  refine x_freezeG (n := s.2.length) (id := 500005) (sz := 2) (xs := (sortT s.2).map tD) rfl rfl (by simp [sortT_len]) ?_
 case' g1 =>
  obtain ⟨q, hqi, rfl⟩ := ents_at hpq
  have hlt1 := (List.getElem?_eq_some_iff.1 hqi).1
  refine brT ?_
  refine x_entry ?_ ⟨hm, (by first | rfl | (simp only [hOf, hset, hpost, htm, hmt, if_true, if_false, not_false_eq_true]; first | done | rfl))⟩ (ents_len _) hpq
  refine x_callF hf (hp _) ?_
  refine br (fun hc4 => ?y4) (fun hc4 => ?n4)
  case' y4 =>
   have hpy : p q.2 = true := hc4
   refine x_appG (id := 500005) (n := s.2.length) (xs := s.2.map tD) (ys := [tD q.1]) (zs := (s.2 ++ [q.1]).map tD) (m := (s.2 ++ [q.1]).length) (T.ok 65 _ rfl).2.1 rfl rfl rfl (by simp) tD_wide (by simp only [List.length_cons, List.length_nil, maxLen]; omega) (by simp only [List.length_cons, List.length_nil]; omega) (by simp) (by simp) ?_
   refine x_rnd (s.1 ++ [iq], (s.2 ++ [q.1])) ⟨hse.next hlt1 hiq, by rw [pick_yes hqi hpy, hA]⟩ (by (try dsimp only); exact unseen_next hlt1 hiq) rfl (x_ent (by first | rfl | (simp only [Tr.get]; simp; done)) (x_ent (by first | rfl | (simp only [Tr.get]; simp; done)) (x_ent (by first | rfl | (simp only [Tr.get]; simp; done)) trivial))) rfl
  case' n4 =>
   have hpn : ¬ p q.2 = true := by simpa using hc4
   refine x_rnd (s.1 ++ [iq], s.2) ⟨hse.next hlt1 hiq, by rw [pick_no hqi hpn, hA]⟩ (by (try dsimp only); exact unseen_next hlt1 hiq) rfl (x_ent (by first | rfl | (simp only [Tr.get]; simp; done)) (x_ent (by first | rfl | (simp only [Tr.get]; simp; done)) (x_ent (by first | rfl | (simp only [Tr.get]; simp; done)) trivial))) rfl
 all_goals (refine ⟨?_, ⟨⟨ht, (by first | rfl | (simp only [hOf, hset, hpost, htm, hmt, if_true, if_false, not_false_eq_true]; first | done | rfl))⟩, ⟨hm, (by first | rfl | (simp only [hOf, hset, hpost, htm, hmt, if_true, if_false, not_false_eq_true]; first | done | rfl))⟩, trivial⟩⟩; simp only [fitsL, fits, C.asD, and_true] <;> (refine row_inj ?_; rw [hA, tags_pick hse hall]))
end Go.Vm
end
