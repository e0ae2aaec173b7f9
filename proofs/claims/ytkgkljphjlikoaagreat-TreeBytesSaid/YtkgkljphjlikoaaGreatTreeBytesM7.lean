/- Part 7 of what the proof of TreeBytes stands on: TrRef, Tb, TrAt, TrReads, TrSettle, TrPut, TrAwake, TbLaw, Bridge, LnCells, LbCells, TreeBytesWalk. -/
import Derived.Test.YtkgkljphjlikoaaGreatTreeBytesM6
section
namespace Go.Vm
open Go.RowKit Go.Proofs
set_option linter.unusedVariables false
set_option linter.unusedSimpArgs false
set_option maxRecDepth 10000

theorem eD_wide {e : EdgeD} : ∀ x ∈ [eD e], x.cells.length = 20 := by intro x hx; rw [List.mem_singleton.1 hx]; rfl
theorem eDs_wide (E : List EdgeD) : ∀ x ∈ E.map eD, x.cells.length = 20 := by intro x hx; obtain ⟨e, _, rfl⟩ := List.mem_map.1 hx; rfl
theorem tD_wide {e : TagD} : ∀ x ∈ [tD e], x.cells.length = 2 := by intro x hx; rw [List.mem_singleton.1 hx]; rfl
theorem tDs_wide (E : List TagD) : ∀ x ∈ E.map tD, x.cells.length = 2 := by intro x hx; obtain ⟨e, _, rfl⟩ := List.mem_map.1 hx; rfl
theorem at_ix {E : List EdgeD} {j : Nat} {p : EdgeD} {a : Int} (hp : E[j]? = some p) (ha : a = (j : Int)) : (E.map eD)[a.toNat]? = some (eD p) := by rw [ha, Int.toNat_natCast]; exact mapAt hp
theorem slice_drop {α : Type} {f : α → D} {l : List α} {j : Nat} : ((l.map f).take (l.map f).length).drop j = (l.drop j).map f := by rw [List.take_of_length_le (by simp), List.map_drop]
def heavyE (m : Nat) (E : List EdgeD) : Bool := decide (m < E.length) || E.any fun e => heavyL e.lens
theorem heavyE_ok {m : Nat} {E : List EdgeD} (h : heavyE m E = false) : E.length ≤ m ∧ ∀ e ∈ E, okX e.lens := by
  unfold heavyE at h
  simp only [Bool.or_eq_false_iff, decide_eq_false_iff_not] at h
  refine ⟨by omega, fun e he => ?_⟩
  have := List.any_eq_false.1 h.2 e he
  exact heavyL_ok (by simpa using this)
theorem live_take {E : List EdgeD} {q : EdgeD → Bool} {k : Nat} {p : EdgeD} (hp : E[k]? = some p) : noTag :: ((E.take (k + 1)).filter q).map (·.id) = (noTag :: ((E.take k).filter q).map (·.id)) ++ (if q p = true then [p.id] else []) := by
  rw [take_next hp, List.filter_append, List.map_append]
  cases h : q p <;> simp [h]
def liveE (E : List EdgeD) : List TagD := noTag :: ((sortE E).filter fun e => decide ((cameOf E e.id).1 = 2)).map (·.id)

set_option maxHeartbeats 1000000 in
theorem refEdge_any (e : EdgeD) (he : okX e.lens) : Contract Tryz.prog 10 [eD e] [.d (.sc (.bool (edgeB e)))] := by
 refine T.fn [] Tryz.func10 ?_
 refine x_call T.en_47 (refTag_any _) ?_
 refine br (fun hg1 => ?y1) (fun hg1 => ?n1)
 case' y1 =>
  first | refine xeq_23e _ _ ?_ | refine xeq_23e _ noTag ?_ | refine xeq_23e noTag _ ?_
  refine br (fun hg2 => ?y2) (fun hg2 => ?n2)
  case' y2 =>
   refine brT ?_
   first | refine xeq_23n _ _ ?_ | refine xeq_23n _ noTag ?_ | refine xeq_23n noTag _ ?_
   refine br (fun hg4 => ?y4) (fun hg4 => ?n4)
   case' y4 =>
    refine x_call T.en_48 (refLensRight_any _ he) ?_
    refine br (fun hg5 => ?y5) (fun hg5 => ?n5)
   case' n4 =>
    refine brF ?_
  case' n2 =>
   refine x_call T.en_47 (refTag_any _) ?_
   refine br (fun hg7 => ?y7) (fun hg7 => ?n7)
   case' y7 =>
    first | refine xeq_23n _ _ ?_ | refine xeq_23n _ noTag ?_ | refine xeq_23n noTag _ ?_
    refine br (fun hg8 => ?y8) (fun hg8 => ?n8)
    case' y8 =>
     refine x_call T.en_48 (refLensRight_any _ he) ?_
     refine br (fun hg9 => ?y9) (fun hg9 => ?n9)
    case' n8 =>
     refine brF ?_
   case' n7 =>
    refine brF ?_
    refine brF ?_
 case' n1 =>
  refine brF ?_
  refine brF ?_
  refine brF ?_
 all_goals (refine x_ret ?_; simp only [fitsL, fits, C.asD, and_true] <;> (refine scb ?_; rw [edgeB_ref]; first | (simp_all; done) | (rw [Bool.eq_iff_iff]; simp_all <;> omega)))

set_option maxHeartbeats 1000000 in
theorem refSame_any (e f : EdgeD) (he : okX e.lens) : Contract Tryz.prog 15 [eD e, eD f] [.d (.sc (.bool (decide (e = f))))] := by
 refine T.fn [] Tryz.func15 ?_
 first | refine xeq_23e _ _ ?_ | refine xeq_23e _ noTag ?_ | refine xeq_23e noTag _ ?_
 refine br (fun hg1 => ?y1) (fun hg1 => ?n1)
 case' y1 =>
  first | refine xeq_23e _ _ ?_ | refine xeq_23e _ noTag ?_ | refine xeq_23e noTag _ ?_
  refine br (fun hg2 => ?y2) (fun hg2 => ?n2)
  case' y2 =>
   refine x_call T.en_57 (refLensSame_any _ _ he) ?_
 case' n1 =>
  refine brF ?_
 all_goals (refine x_ret ?_; simp only [fitsL, fits, C.asD, and_true] <;> (refine scb ?_; clear he; cases e; cases f; simp_all))

set_option maxHeartbeats 1000000 in
theorem refAt_any (E : List EdgeD) (id : TagD) (hE : E.length ≤ 1000) : Contract Tryz.prog 30 [.row (E.map eD), tD id] [.d (.sc (.int .i64 (atE E id)))] := by
 refine T.fn [] Tryz.func30 ?_
 refine xloopR (fb := []) T.ok (Nat.le_of_ble_eq_true rfl) [0, 3] (fun (k : Nat) => [(5, .c (.d (.sc (.int .i64 (k : Nat)))))]) (fun k => k ≤ E.length ∧ atE E id = atN id k (E.drop k)) (fun k => E.length - k) 0 ⟨Nat.zero_le _, rfl⟩ (x_ent (by first | rfl | (simp only [Tr.get]; simp; done)) trivial) ?_
 rintro k ⟨hk, hi⟩
 refine x_len ?_
 refine br (fun hc1 => ?y1) (fun hc1 => ?n1)
 case' y1 =>
  obtain ⟨p, hp⟩ := elem_at hc1
  have hkl := lt_len hp
  refine And.intro ⟨T.mixed, by decide +kernel⟩ ?_
  first | refine x_ix (by exact mapAt hp) ?_ | refine x_ixI (by exact mapAt hp) ?_
  first | refine xeq_23e _ _ ?_ | refine xeq_23e _ noTag ?_ | refine xeq_23e noTag _ ?_
  refine br (fun hc2 => ?y2) (fun hc2 => ?n2)
  case' n2 =>
   first | refine x_inc ?_ | refine x_add ?_ | refine x_bin rfl rfl ?_
   refine x_rnd (k + 1) ⟨lt_len hp, hi.trans (atN_no hp (by assumption))⟩ (by (try dsimp only); have := lt_len hp; omega) rfl (x_ent (by first | rfl | (simp only [Tr.get]; simp; done)) trivial) rfl
 all_goals (refine x_ret ?_; simp only [fitsL, fits, C.asD, and_true] <;> (first | (rw [hi, atN_yes hp (by assumption)]) | (rw [hi, atN_end (past_end (by assumption))])))

set_option maxHeartbeats 1000000 in
theorem refHeavy_any (E : List EdgeD) (m : Nat) (hm : m ≤ 1000) : Contract Tryz.prog 20 [.row (E.map eD), .sc (.int .i64 (m : Nat))] [.d (.sc (.bool (heavyE m E)))] := by
 refine T.fn [] Tryz.func20 ?_
 refine x_len ?_
 refine br (fun hc1 => ?y1) (fun hc1 => ?n1)
 case' n1 =>
  have h40 : E.length ≤ m := by omega
  refine xloopR (fb := []) T.ok (Nat.le_of_ble_eq_true rfl) [0] (fun (k : Nat) => [(5, .c (.d (.sc (.int .i64 (k : Nat)))))]) (fun k => k ≤ E.length ∧ (E.take k).any (fun e => heavyL e.lens) = false ∧ E.length ≤ m) (fun k => E.length - k) 0 ⟨Nat.zero_le _, ⟨rfl, h40⟩⟩ (x_ent (by first | rfl | (simp only [Tr.get]; simp; done)) trivial) ?_
  rintro k ⟨hk, hi⟩
  refine x_len ?_
  refine br (fun hc2 => ?y2) (fun hc2 => ?n2)
  case' y2 =>
   obtain ⟨p, hp⟩ := elem_at hc2
   have hkl := lt_len hp
   first | refine x_ix (by exact mapAt hp) ?_ | refine x_ixI (by exact mapAt hp) ?_
   refine x_call T.en_7 (refLensHeavy_any _) ?_
   refine br (fun hc3 => ?y3) (fun hc3 => ?n3)
   case' n3 =>
    first | refine x_inc ?_ | refine x_add ?_ | refine x_bin rfl rfl ?_
    refine x_rnd (k + 1) ⟨lt_len hp, any_next hp hi.1 (by simp_all), hi.2⟩ (by (try dsimp only); have := lt_len hp; omega) rfl (x_ent (by first | rfl | (simp only [Tr.get]; simp; done)) trivial) rfl
 all_goals (refine x_ret ?_; simp only [fitsL, fits, C.asD, and_true] <;> (refine scb ?_; first | (have hh := any_hit (f := fun e : EdgeD => heavyL e.lens) hp ‹heavyL p.lens = true›; unfold heavyE; rw [hh, Bool.or_true]; done) | (have hh := any_end (past_end (by assumption)) hi.1; unfold heavyE; rw [hh, Bool.or_false]; symm; simp only [decide_eq_true_eq, decide_eq_false_iff_not, Bool.not_eq_true', Bool.not_eq_false', Bool.and_eq_true, Bool.or_eq_true, Bool.or_eq_false_iff, Bool.and_eq_false_iff, beq_iff_eq, beq_eq_false_iff_ne, ne_eq, Bool.not_true, Bool.not_false, Bool.false_eq_true, Bool.true_eq_false] at * <;> omega) | (symm; unfold heavyE; simp only [decide_eq_true_eq, decide_eq_false_iff_not, Bool.not_eq_true', Bool.not_eq_false', Bool.and_eq_true, Bool.or_eq_true, Bool.or_eq_false_iff, Bool.and_eq_false_iff, beq_iff_eq, beq_eq_false_iff_ne, ne_eq, Bool.not_true, Bool.not_false, Bool.false_eq_true, Bool.true_eq_false] at * <;> omega)))

set_option maxHeartbeats 1000000 in
theorem refWay_any (E : List EdgeD) (id : TagD) (hE : E.length ≤ 1000) : Contract Tryz.prog 25 [.row (E.map eD), tD id] [.d (.row (((wayOf E id).getD []).map eD)), .d (.sc (.bool ((wayOf E id).isSome)))] := by
 refine T.fn [6] Tryz.func25 ?_
 refine x_frz ?_
 refine xloopR (fb := [6]) T.ok (Nat.le_of_ble_eq_true rfl) [0] (fun (s : Nat × TagD × List EdgeD) => [(7, .c (.d (.sc (.int .i64 ((s.1 : Nat) : Int))))), (3, .box [.sc (.int .i64 s.2.1.r), .sc (.int .i64 s.2.1.n)]), (6, .c (.d (.row (s.2.2.map eD))))]) (fun s => s.1 ≤ E.length + 1 ∧ wayOf E id = (wayN (E.length + 1 - s.1) E s.2.1).map (· ++ s.2.2) ∧ s.2.2.length = s.1) (fun s => E.length + 1 - s.1) (0, id, []) ⟨by simp, by simp [wayOf], rfl⟩ (x_ent (by first | rfl | (simp only [Tr.get]; simp; done)) (x_ent (by first | rfl | (simp only [Tr.get]; simp; done)) (x_ent (by first | rfl | (simp only [Tr.get]; simp; done)) trivial))) ?_
 rintro s ⟨hk, hi, hl⟩
 have hAl : s.2.2.length ≤ 1001 := by omega
 refine x_len ?_
 refine br (fun hc1 => ?y1) (fun hc1 => ?n1)
 case' y1 =>
  obtain ⟨m, hm⟩ : ∃ m, E.length + 1 - s.1 = m + 1 := ⟨E.length - s.1, by omega⟩
  rw [hm] at hi
  first | refine xeq_23e _ _ ?_ | refine xeq_23e _ noTag ?_ | refine xeq_23e noTag _ ?_
  refine br (fun hc2 => ?y2) (fun hc2 => ?n2)
  case' y2 =>
   have hw : wayOf E id = some s.2.2 := by rw [hi, way_root hc2]; rfl
  case' n2 =>
   have hne : ¬ s.2.1 = noTag := hc2
   refine x_call T.en_30 (refAt_any E _ hE) ?_
   refine br (fun hc3 => ?y3) (fun hc3 => ?n3)
   case' y3 =>
    have hw : wayOf E id = none := by rw [hi, way_none hne (atE_miss hc3)]; rfl
   case' n3 =>
    obtain ⟨j, p, hp, hpe, hpa⟩ := atE_hit hc3
    have hkl := lt_len hp
    have ha0 : 0 ≤ atE E s.2.1 := by omega
    first | refine x_ix (by first | exact mapAt hp | exact at_ix hp hpa) ?_ | refine x_ixI (by first | exact mapAt hp | exact at_ix hp hpa) ?_
    first | refine x_app ?_ (by first | exact eDs_wide _ | exact eD_wide | exact tDs_wide _ | exact tD_wide | (simp [D.cells])) (hz := by first | exact snoc_map | exact one_map | exact List.map_take.symm | exact slice_drop | exact rfl | rfl) | refine x_appN ?_ (by first | exact eDs_wide _ | exact eD_wide | exact tDs_wide _ | exact tD_wide | (simp [D.cells]))
    refine x_frz ?_
    first | refine x_ix (by first | exact mapAt hp | exact at_ix hp hpa) ?_ | refine x_ixI (by first | exact mapAt hp | exact at_ix hp hpa) ?_
    first | refine x_inc ?_ | refine x_add ?_ | refine x_bin rfl rfl ?_
    refine x_rnd (s.1 + 1, p.parent, p :: s.2.2) ⟨by (try dsimp only); omega, by rw [hi, way_some hne hpe, show E.length + 1 - (s.1 + 1) = m by omega, Option.map_map]; congr 1; funext w; simp, by simp [hl]⟩ (by (try dsimp only); omega) rfl (x_ent (by first | rfl | (simp only [Tr.get]; simp; done)) (x_ent (by first | rfl | (simp only [Tr.get]; simp; done)) (x_ent (by first | rfl | (simp only [Tr.get]; simp; done)) trivial))) rfl
 case' n1 =>
  have hw : wayOf E id = none := by rw [hi, show E.length + 1 - s.1 = 0 by omega]; rfl
 all_goals (refine x_ret ?_; simp only [fitsL, fits, C.asD, and_true] <;> (first | (rw [hw]; exact ⟨rfl, rfl⟩)))

set_option maxHeartbeats 1000000 in
theorem refSchemaRoot_any  : Contract Tryz.prog 61 [] [.d (.row (rootS.map fD))] := by
 refine T.fn [] Tryz.func61 ?_
 first | refine x_app ?_ (by first | exact wides | (simp [D.cells])) | refine x_appN ?_ (by first | exact wides | (simp [D.cells]))
 first | refine x_app ?_ (by first | exact wides | (simp [D.cells])) | refine x_appN ?_ (by first | exact wides | (simp [D.cells]))
 first | refine x_app ?_ (by first | exact wides | (simp [D.cells])) | refine x_appN ?_ (by first | exact wides | (simp [D.cells]))
 first | refine x_app ?_ (by first | exact wides | (simp [D.cells])) | refine x_appN ?_ (by first | exact wides | (simp [D.cells]))
 first | refine x_app ?_ (by first | exact wides | (simp [D.cells])) | refine x_appN ?_ (by first | exact wides | (simp [D.cells]))
 all_goals (refine x_ret ?_; simp only [fitsL, fits, C.asD, and_true] <;> (rfl))

set_option maxHeartbeats 1000000 in
theorem refState_any (E : List EdgeD) (id : TagD) (hE : E.length ≤ 1000) (hok : ∀ e ∈ E, okX e.lens) : Contract Tryz.prog 22 [.row (E.map eD), tD id] [.d (.sc (.int .i64 (cameOf E id).1)), .d (.row ((cameOf E id).2.1.map fD))] := by
 refine T.fn [] Tryz.func22 ?_
 first | refine xeq_23n _ _ ?_ | refine xeq_23n _ noTag ?_ | refine xeq_23n noTag _ ?_
 refine br (fun hg1 => ?y1) (fun hg1 => ?n1)
 case' y1 =>
  have hne : ¬ id = noTag := by simpa using hg1
  refine x_call T.en_30 (refAt_any E _ hE) ?_
  refine br (fun hc2 => ?y2) (fun hc2 => ?n2)
  case' y2 =>
   have hst := state_none hne (atE_miss hc2)
  case' n2 =>
   have hx : id = noTag ∨ ¬ edgeOf E id = none := .inr (by obtain ⟨j, e, h1, h2, h3⟩ := atE_hit hc2; rw [h2]; simp)
   refine x_call T.en_25 (refWay_any E id hE) ?_
   refine br (fun hc3 => ?y3) (fun hc3 => ?n3)
   case' y3 =>
    have hst := state_way hx (by simpa using hc3)
   case' n3 =>
    have hw : wayOf E id = some ((wayOf E id).getD []) := by cases hq : wayOf E id with | none => (rw [hq] at hc3; simp at hc3) | some w => rfl
    have hwm : ∀ e ∈ ((wayOf E id).getD []), e ∈ E := way_mem hw
    have hwl : ((wayOf E id).getD []).length ≤ 1001 := by have := way_len hw; omega
    have hws := state_some hw
    refine x_call T.en_61 (refSchemaRoot_any) ?_
    refine xloopR (fb := []) T.ok (Nat.le_of_ble_eq_true rfl) [6] (fun (s : Nat × List FieldD) => [(9, .c (.d (.sc (.int .i64 ((s.1 : Nat) : Int))))), (8, .c (.d (.row (s.2.map fD))))]) (fun s => s.1 ≤ ((wayOf E id).getD []).length ∧ foldW (((wayOf E id).getD []).take s.1) = (2, s.2, (s.1 : Int))) (fun s => ((wayOf E id).getD []).length - s.1) (0, rootS) ⟨Nat.zero_le _, rfl⟩ (x_ent (by first | rfl | (simp only [Tr.get]; simp; done)) (x_ent (by first | rfl | (simp only [Tr.get]; simp; done)) trivial)) ?_
    rintro s ⟨hk, hi⟩
    refine x_len ?_
    refine br (fun hc4 => ?y4) (fun hc4 => ?n4)
    case' y4 =>
     obtain ⟨p, hp⟩ := elem_at hc4
     have hkl := lt_len hp
     have hoX := hok p (hwm p (List.mem_of_getElem? hp))
     have hoL : okL s.2 := by have h := fold_okL (w := ((wayOf E id).getD []).take s.1) (fun e he => hok e (hwm e (List.mem_of_mem_take he))); rw [hi] at h; exact h
     first | refine x_ix (by exact mapAt hp) ?_ | refine x_ixI (by exact mapAt hp) ?_
     refine x_call T.en_62 (refApply_any _ _ hoL hoX) ?_
     refine br (fun hc5 => ?y5) (fun hc5 => ?n5)
     case' y5 =>
      have hst := fold_stop hp hi (by simpa using hc5)
      rw [← hws] at hst
     case' n5 =>
      have hgo := hc5
      first | refine x_inc ?_ | refine x_add ?_ | refine x_bin rfl rfl ?_
      refine x_rnd (s.1 + 1, (applyS s.2 p.lens).1) ⟨lt_len hp, by rw [fold_go hp hi (by simpa using hgo)]; simp⟩ (by (try dsimp only); have := lt_len hp; (try dsimp only); omega) rfl (x_ent (by first | rfl | (simp only [Tr.get]; simp; done)) (x_ent (by first | rfl | (simp only [Tr.get]; simp; done)) trivial)) rfl
    case' n4 =>
     have hst : cameOf E id = (2, s.2, (s.1 : Int)) := by rw [hws, ← hi, List.take_of_length_le (past_end hc4)]
 case' n1 =>
  have hx : id = noTag ∨ ¬ edgeOf E id = none := .inl (by simpa using hg1)
  refine brF ?_
  refine x_call T.en_25 (refWay_any E id hE) ?_
  refine br (fun hc7 => ?y7) (fun hc7 => ?n7)
  case' y7 =>
   have hst := state_way hx (by simpa using hc7)
  case' n7 =>
   have hw : wayOf E id = some ((wayOf E id).getD []) := by cases hq : wayOf E id with | none => (rw [hq] at hc7; simp at hc7) | some w => rfl
   have hwm : ∀ e ∈ ((wayOf E id).getD []), e ∈ E := way_mem hw
   have hwl : ((wayOf E id).getD []).length ≤ 1001 := by have := way_len hw; omega
   have hws := state_some hw
   refine x_call T.en_61 (refSchemaRoot_any) ?_
   refine xloopR (fb := []) T.ok (Nat.le_of_ble_eq_true rfl) [6] (fun (s : Nat × List FieldD) => [(9, .c (.d (.sc (.int .i64 ((s.1 : Nat) : Int))))), (8, .c (.d (.row (s.2.map fD))))]) (fun s => s.1 ≤ ((wayOf E id).getD []).length ∧ foldW (((wayOf E id).getD []).take s.1) = (2, s.2, (s.1 : Int))) (fun s => ((wayOf E id).getD []).length - s.1) (0, rootS) ⟨Nat.zero_le _, rfl⟩ (x_ent (by first | rfl | (simp only [Tr.get]; simp; done)) (x_ent (by first | rfl | (simp only [Tr.get]; simp; done)) trivial)) ?_
   rintro s ⟨hk, hi⟩
   refine x_len ?_
   refine br (fun hc8 => ?y8) (fun hc8 => ?n8)
   case' y8 =>
    obtain ⟨p, hp⟩ := elem_at hc8
    have hkl := lt_len hp
    have hoX := hok p (hwm p (List.mem_of_getElem? hp))
    have hoL : okL s.2 := by have h := fold_okL (w := ((wayOf E id).getD []).take s.1) (fun e he => hok e (hwm e (List.mem_of_mem_take he))); rw [hi] at h; exact h
    first | refine x_ix (by exact mapAt hp) ?_ | refine x_ixI (by exact mapAt hp) ?_
    refine x_call T.en_62 (refApply_any _ _ hoL hoX) ?_
    refine br (fun hc9 => ?y9) (fun hc9 => ?n9)
    case' y9 =>
     have hst := fold_stop hp hi (by simpa using hc9)
     rw [← hws] at hst
    case' n9 =>
     have hgo := hc9
     first | refine x_inc ?_ | refine x_add ?_ | refine x_bin rfl rfl ?_
     refine x_rnd (s.1 + 1, (applyS s.2 p.lens).1) ⟨lt_len hp, by rw [fold_go hp hi (by simpa using hgo)]; simp⟩ (by (try dsimp only); have := lt_len hp; (try dsimp only); omega) rfl (x_ent (by first | rfl | (simp only [Tr.get]; simp; done)) (x_ent (by first | rfl | (simp only [Tr.get]; simp; done)) trivial)) rfl
   case' n8 =>
    have hst : cameOf E id = (2, s.2, (s.1 : Int)) := by rw [hws, ← hi, List.take_of_length_le (past_end hc8)]
 all_goals (refine x_ret ?_; simp only [fitsL, fits, C.asD, and_true] <;> (first | (rw [hst.1, hst.2]; exact ⟨rfl, rfl⟩) | (rw [hst]; exact ⟨rfl, rfl⟩)))

set_option maxHeartbeats 1000000 in
theorem refSchema_any (E : List EdgeD) (id : TagD) (hE : E.length ≤ 1000) (hok : ∀ e ∈ E, okX e.lens) : Contract Tryz.prog 24 [.row (E.map eD), tD id] [.d (.row ((if (cameOf E id).1 = 2 then (cameOf E id).2.1 else []).map fD)), .d (.sc (.int .i64 (if (cameOf E id).1 = 2 then 0 else if (cameOf E id).1 = 3 then 16 else 13)))] := by
 refine T.fn [] Tryz.func24 ?_
 refine x_call T.en_22 (refState_any E _ hE hok) ?_
 refine br (fun hc1 => ?y1) (fun hc1 => ?n1)
 case' n1 =>
  refine br (fun hc2 => ?y2) (fun hc2 => ?n2)
 all_goals (refine x_ret ?_; simp only [fitsL, fits, C.asD, and_true] <;> (simp_all))
end Go.Vm
end
section
namespace Go.Vm
open Go.RowKit Go.Proofs
set_option linter.unusedVariables false
set_option linter.unusedSimpArgs false
set_option maxRecDepth 10000

theorem okX_rightL {x : LensD} (h : rightL x = true) : okX x := by
  have z := rightL_size h
  refine ⟨?_, Nat.le_trans z.forth.1 (by decide), Nat.le_trans z.back.1 (by decide)⟩
  by_cases hk : x.kind = 2 ∨ x.kind = 3
  · exact rightF_cases (z.field.1 hk)
  · rw [z.field.2 hk]; decide
theorem lensO_okX {b : List UInt8} {a : Nat} {f : Int} {x : LensD × Nat} (h : lensO b a f = some x) : okX x.1 := by
  unfold lensO at h
  split at h
  · cases h
  split at h
  · cases h
  split at h
  · cases h
  split at h
  · cases h
  split at h
  · cases h
  split at h
  · cases h
  split at h
  · cases h
  rename_i q hq
  split at h
  · cases h
  rename_i d hd
  split at h
  · injection h with h; subst h
    rename_i hr
    exact okX_rightL hr
  · cases h

set_option maxHeartbeats 1000000 in
theorem r8putG_any (f r n : Int) (hf : fmtF f) (h0 : inI64 r) (h1 : inI64 n) : Contract Tryz.prog 55 [.sc (.int .i64 (f)), thD 3 0 noB false r n noRef 0] [.own 0 5 (byD (tagP f r n))] := by
 refine T.fn [1041] Tryz.func55 ?_
 have hpl := putN_len f h0
 have hpl2 := putN_len f h1
 refine brF ?_
 refine brF ?_
 refine brF ?_
 refine brF ?_
 refine brT ?_
 refine And.intro ⟨T.mixed, by decide +kernel⟩ ?_
 refine x_call T.en_99 (ref4Put_any f r h0) ?_
 refine x_call T.en_99 (ref4Put_any f n h1) ?_
 first | refine x_app ?_ (by first | exact one_wide | exact byD_wide _) (hz := by first | exact byD_app _ _ | exact rfl | rfl) (h1 := by unfold maxLen; ((try simp only [byD_len, List.length_append, List.length_nil, List.length_cons, List.length_map, Int.natCast_add]); omega)) (h2 := by ((try simp only [byD_len, List.length_append, List.length_nil, List.length_cons, List.length_map, Int.natCast_add]); omega)) | refine x_appN ?_ (by first | exact one_wide | exact byD_wide _) (h1 := by unfold maxLen; ((try simp only [byD_len, List.length_append, List.length_nil, List.length_cons, List.length_map, Int.natCast_add]); omega)) (h2 := by ((try simp only [byD_len, List.length_append, List.length_nil, List.length_cons, List.length_map, Int.natCast_add]); omega))
 all_goals (refine x_ret ?_; simp only [fitsL, fits, C.asD, and_true] <;> (exact own_fit rfl))

set_option maxHeartbeats 1000000 in
theorem r8get3_any (b : List UInt8) (a : Nat) (f : Int) (hb : b.length ≤ 16000000) (ha : a ≤ b.length) : Contract Tryz.prog 58 [.row (byD b), .sc (.int .i64 ((a : Nat))), .sc (.int .i64 (f)), thD 3 0 noB false 0 0 noRef 0] [.d (thD 3 0 noB false (oT (tagO b a f)).1 (oT (tagO b a f)).2 noRef 0), .d (.sc (.int .i64 (tE (tagO b a f)))), .d (.sc (.bool ((tagO b a f).isSome)))] := by
 refine T.fn [] Tryz.func58 ?_
 refine brF ?_
 refine brF ?_
 refine brF ?_
 refine brF ?_
 refine brT ?_
 refine x_call T.en_105 (ref4Get_any b a f hb ha) ?_
 refine br (fun hc6 => ?y6) (fun hc6 => ?n6)
 case' y6 =>
  have hT : tagO b a f = none := by unfold tagO; rw [gC_none hc6]
 case' n6 =>
  obtain ⟨x, hg⟩ := gC_some (by split <;> decide) hc6
  have hx3 := getN_in (n := x.1) (e := x.2) hg
  rw [gE_some hg]
  rw [gN_some hg]
  refine x_call T.en_105 (ref4Get_any b x.2 f hb hx3.2.2.1) ?_
  refine br (fun hc7 => ?y7) (fun hc7 => ?n7)
  case' y7 =>
   have hT : tagO b a f = none := by unfold tagO; rw [hg]; simp only; rw [gC_none hc7]
  case' n7 =>
   obtain ⟨y, hg2⟩ := gC_some (by split <;> decide) hc7
   have hT : tagO b a f = some ((x.1, y.1), y.2) := by unfold tagO; rw [hg]; simp only; rw [hg2]
 all_goals (refine x_ret ?_; simp only [fitsL, fits, C.asD, and_true] <;> (rw [hT]; first | exact ⟨rfl, rfl, rfl⟩ | (rw [hg2]; exact ⟨rfl, rfl, rfl⟩)))

set_option maxHeartbeats 1000000 in
theorem treePut_any (b : List UInt8) (f : Int) (e : EdgeD) (hb : b.length ≤ 1000000) (hi : okIE e) (h : OkB e.lens) : Contract Tryz.prog 8 [.row (byD b), .sc (.int .i64 (f)), eD e] [.own 0 5 (byD (b ++ edgeP f e))] := by
 refine T.fn [] Tryz.func8 ?_
 have ha := tagP_len (f := f) hi.1.1 hi.1.2
 have hb2 := tagP_len (f := f) hi.2.1.1 hi.2.1.2
 have hc := lensP_len (f := f) h
 refine x_call T.en_42 (penTag_any [] f e.id.r e.id.n (by simp) hi.1.1 hi.1.2) ?_
 refine x_call T.en_42 (penTag_any ([] ++ tagP f e.id.r e.id.n) f e.parent.r e.parent.n (by (try simp only [byD_len, List.length_append, List.length_nil, List.length_cons, List.length_map, Int.natCast_add]); omega) hi.2.1.1 hi.2.1.2) ?_
 refine x_call T.en_43 (lensPut_any (([] ++ tagP f e.id.r e.id.n) ++ tagP f e.parent.r e.parent.n) f e.lens (by (try simp only [byD_len, List.length_append, List.length_nil, List.length_cons, List.length_map, Int.natCast_add]); omega) h) ?_
 refine x_len ?_
 refine x_len ?_
 refine x_add ?_ (h := IntWalk.i64_in _ (by (try simp only [byD_len, List.length_append, List.length_nil, List.length_cons, List.length_map, Int.natCast_add]); omega))
 refine x_make ?_ (h1 := by ((try simp only [byD_len, List.length_append, List.length_nil, List.length_cons, List.length_map, Int.natCast_add]); omega)) (h2 := by unfold maxLen; ((try simp only [byD_len, List.length_append, List.length_nil, List.length_cons, List.length_map, Int.natCast_add]); omega))
 first | refine x_app ?_ (by first | exact one_wide | exact byD_wide _) (hz := by first | exact byD_app _ _ | exact rfl | rfl) (h1 := by unfold maxLen; ((try simp only [byD_len, List.length_append, List.length_nil, List.length_cons, List.length_map, Int.natCast_add]); omega)) (h2 := by ((try simp only [byD_len, List.length_append, List.length_nil, List.length_cons, List.length_map, Int.natCast_add]); omega)) | refine x_appN ?_ (by first | exact one_wide | exact byD_wide _) (h1 := by unfold maxLen; ((try simp only [byD_len, List.length_append, List.length_nil, List.length_cons, List.length_map, Int.natCast_add]); omega)) (h2 := by ((try simp only [byD_len, List.length_append, List.length_nil, List.length_cons, List.length_map, Int.natCast_add]); omega))
 first | refine x_app ?_ (by first | exact one_wide | exact byD_wide _) (hz := by first | exact byD_app _ _ | exact rfl | rfl) (h1 := by unfold maxLen; ((try simp only [byD_len, List.length_append, List.length_nil, List.length_cons, List.length_map, Int.natCast_add]); omega)) (h2 := by ((try simp only [byD_len, List.length_append, List.length_nil, List.length_cons, List.length_map, Int.natCast_add]); omega)) | refine x_appN ?_ (by first | exact one_wide | exact byD_wide _) (h1 := by unfold maxLen; ((try simp only [byD_len, List.length_append, List.length_nil, List.length_cons, List.length_map, Int.natCast_add]); omega)) (h2 := by ((try simp only [byD_len, List.length_append, List.length_nil, List.length_cons, List.length_map, Int.natCast_add]); omega))
 all_goals (refine x_ret ?_; simp only [fitsL, fits, C.asD, and_true] <;> (refine own_fit ?_; unfold edgeP; simp [byD]))

set_option maxHeartbeats 1000000 in
theorem treeGet_any (t : Nat) (ht : NAM ≤ t) (b : List UInt8) (f : Int) (s : Nat × Bool) (hb : b.length ≤ 16000000) (hs : s.1 ≤ b.length) : ContractH Tryz.prog 12 [.ptr t 0] [(t, rdS b f s)] [.d (eD (edgeR b f s).1)] [(t, rdS b f (edgeR b f s).2)] := by
 refine T.fnH [7, 9, 16, 22, 4013, 6005, 6010, 6011, 6014] Tryz.func12 ?_ (by simp only [List.forall_mem_cons, List.not_mem_nil, false_implies, implies_true, and_true]; exact ht) (by simp [thing]) (by simp [thing])
 have h1 := es1_inv (f := f) hs
 have h2 := es2_inv (f := f) hs
 have h3 := es3_inv (f := f) hs
 refine x_callH T.en_50 (tag8_any t ht b f s hb hs) ?_ ⟨⟨ht, (by first | rfl | (simp only [hOf, hset, hpost, if_true, if_false, not_false_eq_true]; first | done | rfl))⟩, trivial⟩
 refine x_callH T.en_50 (tag8_any t ht b f (es1 b f s) hb h1) ?_ ⟨⟨ht, (by first | rfl | (simp only [hOf, hset, hpost, if_true, if_false, not_false_eq_true]; first | done | rfl))⟩, trivial⟩
 refine And.intro ⟨T.mixed, by decide +kernel⟩ ?_
 refine q_callH T.en_51 (lensGet_any t ht b f (es2 b f s) hb h2) ?_ ⟨⟨ht, (by first | rfl | (simp only [hOf, hset, hpost, if_true, if_false, not_false_eq_true]; first | done | rfl))⟩, trivial⟩
 refine x_callR T.en_18 (bad_any t ht b f (es3 b f s) hb h3) ?_ ⟨⟨ht, (by first | rfl | (simp only [hOf, hset, hpost, if_true, if_false, not_false_eq_true]; first | done | rfl))⟩, trivial⟩
 refine br (fun hc1 => ?y1) (fun hc1 => ?n1)
 case' y1 =>
  have hR : edgeR b f s = (noEdge, es3 b f s) := by unfold edgeR; rw [if_pos (by assumption)]
 case' n1 =>
  refine x_call T.en_9 (edge_any (edgeV b f s) edgeV_ok) ?_
  refine br (fun hc2 => ?y2) (fun hc2 => ?n2)
  case' y2 =>
   have hR : edgeR b f s = (noEdge, ((es3 b f s).1, true)) := by unfold edgeR; rw [if_neg (by simp_all), if_pos (by assumption)]
   refine x_callH T.en_52 (spoil_any t ht b f (es3 b f s) hb h3) ?_ ⟨⟨ht, (by first | rfl | (simp only [hOf, hset, hpost, if_true, if_false, not_false_eq_true]; first | done | rfl))⟩, trivial⟩
  case' n2 =>
   have hR : edgeR b f s = (edgeV b f s, es3 b f s) := by unfold edgeR; rw [if_neg (by simp_all), if_neg (by simp_all)]
 all_goals (refine ⟨?_, ⟨⟨ht, (by rw [hR]; first | rfl | (rw [hg]; done) | (rw [hg]; simp only [hOf, hset, hpost, if_true, if_false, not_false_eq_true]; first | done | rfl) | (simp only [hOf, hset, hpost, if_true, if_false, not_false_eq_true]; first | done | rfl))⟩, trivial⟩⟩; simp only [fitsL, fits, C.asD, and_true] <;> (rw [hR]; rfl))

set_option maxHeartbeats 1000000 in
theorem r17Bytes_any (f : Int) (e : EdgeD) (hf : fmtF f) (hi : okIE e) (h : OkB e.lens) : Contract Tryz.prog 14 [.sc (.int .i64 (f)), eD e] [.own 0 5 (byD (edgeP f e))] := by
 refine T.fn [] Tryz.func14 ?_
 have ha := tagP_len (f := f) hi.1.1 hi.1.2
 have hb2 := tagP_len (f := f) hi.2.1.1 hi.2.1.2
 have hc := lensP_len (f := f) h
 refine x_call T.en_55 (r8putG_any f e.id.r e.id.n hf hi.1.1 hi.1.2) ?_
 refine x_call T.en_55 (r8putG_any f e.parent.r e.parent.n hf hi.2.1.1 hi.2.1.2) ?_
 first | refine x_app ?_ (by first | exact one_wide | exact byD_wide _) (hz := by first | exact byD_app _ _ | exact rfl | rfl) (h1 := by unfold maxLen; ((try simp only [byD_len, List.length_append, List.length_nil, List.length_cons, List.length_map, Int.natCast_add]); omega)) (h2 := by ((try simp only [byD_len, List.length_append, List.length_nil, List.length_cons, List.length_map, Int.natCast_add]); omega)) | refine x_appN ?_ (by first | exact one_wide | exact byD_wide _) (h1 := by unfold maxLen; ((try simp only [byD_len, List.length_append, List.length_nil, List.length_cons, List.length_map, Int.natCast_add]); omega)) (h2 := by ((try simp only [byD_len, List.length_append, List.length_nil, List.length_cons, List.length_map, Int.natCast_add]); omega))
 refine x_call T.en_56 (ref15Put_any f e.lens hf h) ?_
 first | refine x_app ?_ (by first | exact one_wide | exact byD_wide _) (hz := by first | exact byD_app _ _ | exact rfl | rfl) (h1 := by unfold maxLen; ((try simp only [byD_len, List.length_append, List.length_nil, List.length_cons, List.length_map, Int.natCast_add]); omega)) (h2 := by ((try simp only [byD_len, List.length_append, List.length_nil, List.length_cons, List.length_map, Int.natCast_add]); omega)) | refine x_appN ?_ (by first | exact one_wide | exact byD_wide _) (h1 := by unfold maxLen; ((try simp only [byD_len, List.length_append, List.length_nil, List.length_cons, List.length_map, Int.natCast_add]); omega)) (h2 := by ((try simp only [byD_len, List.length_append, List.length_nil, List.length_cons, List.length_map, Int.natCast_add]); omega))
 all_goals (refine x_ret ?_; simp only [fitsL, fits, C.asD, and_true] <;> (refine own_fit ?_; unfold edgeP; simp [byD]))

set_option maxHeartbeats 1000000 in
theorem r17Get_any (b : List UInt8) (a : Nat) (f : Int) (hb : b.length ≤ 16000000) (ha : a ≤ b.length) : Contract Tryz.prog 17 [.row (byD b), .sc (.int .i64 ((a : Nat))), .sc (.int .i64 (f))] [.d (eD (oE (edgeO b a f))), .d (.sc (.int .i64 (tE (edgeO b a f)))), .d (.sc (.bool ((edgeO b a f).isSome)))] := by
 refine T.fn [] Tryz.func17 ?_
 refine x_call T.en_58 (r8get3_any b a f hb ha) ?_
 refine br (fun hc1 => ?y1) (fun hc1 => ?n1)
 case' y1 =>
  have g1 := none_of hc1
  have hT : edgeO b a f = none := by unfold edgeO; rw [g1]
 case' n1 =>
  obtain ⟨i, g1⟩ := some_of hc1
  rw [g1]
  have l1 := tagO_le g1
  refine x_call T.en_58 (r8get3_any b i.2 f hb l1.2) ?_
  refine br (fun hc2 => ?y2) (fun hc2 => ?n2)
  case' y2 =>
   have g2 := none_of hc2
   have hT : edgeO b a f = none := by unfold edgeO; rw [g1]; simp only; rw [g2]
  case' n2 =>
   obtain ⟨p, g2⟩ := some_of hc2
   rw [g2]
   have l2 := tagO_le g2
   refine x_call T.en_59 (ref15Get_any b p.2 f hb l2.2) ?_
   refine br (fun hg3 => ?y3) (fun hg3 => ?n3)
   case' y3 =>
    have g3 := none_of hg3
    have hT : edgeO b a f = none := by unfold edgeO; rw [g1]; simp only; rw [g2]; simp only; rw [g3]
    refine brT ?_
   case' n3 =>
    obtain ⟨x, g3⟩ := some_of hg3
    rw [g3]
    have hx := lensO_okX g3
    refine x_call T.en_10 (refEdge_any ⟨⟨i.1.1, i.1.2⟩, ⟨p.1.1, p.1.2⟩, x.1⟩ hx) ?_
    refine br (fun hc5 => ?y5) (fun hc5 => ?n5)
    case' y5 =>
     have hT : edgeO b a f = none := by unfold edgeO; rw [g1]; simp only; rw [g2]; simp only; rw [g3]; simp only; rw [if_neg (by rw [hc5]; decide)]
    case' n5 =>
     have hT : edgeO b a f = some (⟨⟨i.1.1, i.1.2⟩, ⟨p.1.1, p.1.2⟩, x.1⟩, x.2) := by unfold edgeO; rw [g1]; simp only; rw [g2]; simp only; rw [g3]; simp only; rw [if_pos hc5]
 all_goals (refine x_ret ?_; simp only [fitsL, fits, C.asD, and_true] <;> (rw [hT]; first | exact ⟨rfl, rfl, rfl⟩ | exact ⟨rfl, rfl, trivial⟩ | exact ⟨rfl, trivial, trivial⟩ | exact ⟨rfl, trivial, rfl⟩))
end Go.Vm
end
section
namespace Go.Vm
open Go.RowKit Go.Proofs
set_option linter.unusedVariables false
set_option linter.unusedSimpArgs false
set_option maxRecDepth 10000

set_option maxHeartbeats 1000000 in
theorem schemaRoot_any  : Contract Tryz.prog 118 [] [.d (.row (rootS.map fD))] := by
 refine T.fn [] Tryz.func118 ?_
 all_goals (refine x_ret ?_; simp only [fitsL, fits, C.asD, and_true] <;> (rfl))

set_option maxHeartbeats 1000000 in
theorem at_any (t m : Nat) (ht : NAM ≤ t) (hm : NAM ≤ m) (htm : ¬ t = m) (l : List (TagD × NodeD)) (id : TagD) : ContractH Tryz.prog 63 [.ptr t 0, tD id] [(t, .obj [.mp m]), (m, .mapo (ents l))] [.d (nD (atT l id))] [(t, .obj [.mp m]), (m, .mapo (ents l))] := by
 refine T.fnH [15] Tryz.func63 ?_ (by simp only [List.forall_mem_cons, List.not_mem_nil, false_implies, implies_true, and_true]; exact ⟨ht, hm⟩) (by simp [thing]) (by simp [thing])
 have hmt : ¬ m = t := fun e => htm e.symm
 refine And.intro ⟨T.mixed, by decide +kernel⟩ ?_
 refine x_call T.en_45 (root_any) ?_
 first | refine xeq_23e _ _ ?_ | refine xeq_23e _ noTag ?_ | refine xeq_23e noTag _ ?_
 refine br (fun hc1 => ?y1) (fun hc1 => ?n1)
 case' y1 =>
  refine x_call T.en_118 (schemaRoot_any) ?_
 case' n1 =>
  refine And.intro ⟨T.mixed, by decide +kernel⟩ ?_
  refine x_obj ht (by first | rfl | (simp only [hOf, hset, hpost, htm, hmt, if_true, if_false, not_false_eq_true]; first | done | rfl)) ?_
  refine q_look ?_ ⟨hm, (by first | rfl | (simp only [hOf, hset, hpost, htm, hmt, if_true, if_false, not_false_eq_true]; first | done | rfl))⟩ tagKey ⟨_, rfl⟩ (ents_keys _) Tryz.underlying111 zeroNode (look_node _ _)
 all_goals (refine ⟨?_, ⟨⟨ht, (by first | rfl | (simp only [hOf, hset, hpost, htm, hmt, if_true, if_false, not_false_eq_true]; first | done | rfl))⟩, ⟨hm, (by first | rfl | (simp only [hOf, hset, hpost, htm, hmt, if_true, if_false, not_false_eq_true]; first | done | rfl))⟩, trivial⟩⟩; simp only [fitsL, fits, C.asD, and_true] <;> (first | (rw [at_root (by assumption)]; rfl) | (rw [at_other (by assumption)]; rfl)))
end Go.Vm
end
section
namespace Go.Vm
open Go.RowKit Go.Proofs
set_option linter.unusedVariables false
set_option linter.unusedSimpArgs false
set_option maxRecDepth 10000

set_option maxHeartbeats 1000000 in
theorem state_any (t m : Nat) (ht : NAM ≤ t) (hm : NAM ≤ m) (htm : ¬ t = m) (l : List (TagD × NodeD)) (id : TagD) : ContractH Tryz.prog 26 [.ptr t 0, tD id] [(t, .obj [.mp m]), (m, .mapo (ents l))] [.d (.sc (.int .i64 (atT l id).state))] [(t, .obj [.mp m]), (m, .mapo (ents l))] := by
 refine T.fnH [9] Tryz.func26 ?_ (by simp only [List.forall_mem_cons, List.not_mem_nil, false_implies, implies_true, and_true]; exact ⟨ht, hm⟩) (by simp [thing]) (by simp [thing])
 have hmt : ¬ m = t := fun e => htm e.symm
 first | refine And.intro ⟨_, Tryz.underlying53⟩ ?_ | refine x_bin rfl rfl ?_
 refine brF ?_
 refine x_callR T.en_63 (at_any t m ht hm htm l id) ?_ ⟨⟨ht, (by first | rfl | (simp only [hOf, hset, hpost, htm, hmt, if_true, if_false, not_false_eq_true]; first | done | rfl))⟩, ⟨hm, (by first | rfl | (simp only [hOf, hset, hpost, htm, hmt, if_true, if_false, not_false_eq_true]; first | done | rfl))⟩, trivial⟩
 refine x_field Tryz.underlying106 rfl (T.k_3).1 ?_
 all_goals (refine ⟨?_, ⟨⟨ht, (by first | rfl | (simp only [hOf, hset, hpost, htm, hmt, if_true, if_false, not_false_eq_true]; first | done | rfl))⟩, ⟨hm, (by first | rfl | (simp only [hOf, hset, hpost, htm, hmt, if_true, if_false, not_false_eq_true]; first | done | rfl))⟩, trivial⟩⟩; simp only [fitsL, fits, C.asD, and_true] <;> (rfl))

set_option maxHeartbeats 1000000 in
theorem depth_any (t m : Nat) (ht : NAM ≤ t) (hm : NAM ≤ m) (htm : ¬ t = m) (l : List (TagD × NodeD)) (id : TagD) : ContractH Tryz.prog 28 [.ptr t 0, tD id] [(t, .obj [.mp m]), (m, .mapo (ents l))] [.d (.sc (.int .i64 (if (atT l id).state = 2 then (atT l id).depth else -1)))] [(t, .obj [.mp m]), (m, .mapo (ents l))] := by
 refine T.fnH [10] Tryz.func28 ?_ (by simp only [List.forall_mem_cons, List.not_mem_nil, false_implies, implies_true, and_true]; exact ⟨ht, hm⟩) (by simp [thing]) (by simp [thing])
 have hmt : ¬ m = t := fun e => htm e.symm
 first | refine And.intro ⟨_, Tryz.underlying53⟩ ?_ | refine x_bin rfl rfl ?_
 refine brF ?_
 refine x_callR T.en_63 (at_any t m ht hm htm l id) ?_ ⟨⟨ht, (by first | rfl | (simp only [hOf, hset, hpost, htm, hmt, if_true, if_false, not_false_eq_true]; first | done | rfl))⟩, ⟨hm, (by first | rfl | (simp only [hOf, hset, hpost, htm, hmt, if_true, if_false, not_false_eq_true]; first | done | rfl))⟩, trivial⟩
 refine br (fun hc2 => ?y2) (fun hc2 => ?n2)
 all_goals (refine ⟨?_, ⟨⟨ht, (by first | rfl | (simp only [hOf, hset, hpost, htm, hmt, if_true, if_false, not_false_eq_true]; first | done | rfl))⟩, ⟨hm, (by first | rfl | (simp only [hOf, hset, hpost, htm, hmt, if_true, if_false, not_false_eq_true]; first | done | rfl))⟩, trivial⟩⟩; simp only [fitsL, fits, C.asD, and_true] <;> (first | (rw [if_pos (by assumption)]; done) | (rw [if_neg (by assumption)]; done) | simp_all))

set_option maxHeartbeats 1000000 in
theorem schema_any (t m : Nat) (ht : NAM ≤ t) (hm : NAM ≤ m) (htm : ¬ t = m) (l : List (TagD × NodeD)) (id : TagD) (ho : okL (atT l id).schema) : ContractH Tryz.prog 23 [.ptr t 0, tD id] [(t, .obj [.mp m]), (m, .mapo (ents l))] [.d (.row ((if (atT l id).state = 2 then (atT l id).schema else []).map fD)), .d (.sc (.int .i64 (if (atT l id).state = 2 then 0 else if (atT l id).state = 3 then 16 else 13)))] [(t, .obj [.mp m]), (m, .mapo (ents l))] := by
 refine T.fnH [11] Tryz.func23 ?_ (by simp only [List.forall_mem_cons, List.not_mem_nil, false_implies, implies_true, and_true]; exact ⟨ht, hm⟩) (by simp [thing]) (by simp [thing])
 have hmt : ¬ m = t := fun e => htm e.symm
 first | refine And.intro ⟨_, Tryz.underlying53⟩ ?_ | refine x_bin rfl rfl ?_
 refine brF ?_
 refine x_callR T.en_63 (at_any t m ht hm htm l id) ?_ ⟨⟨ht, (by first | rfl | (simp only [hOf, hset, hpost, htm, hmt, if_true, if_false, not_false_eq_true]; first | done | rfl))⟩, ⟨hm, (by first | rfl | (simp only [hOf, hset, hpost, htm, hmt, if_true, if_false, not_false_eq_true]; first | done | rfl))⟩, trivial⟩
 refine br (fun hc2 => ?y2) (fun hc2 => ?n2)
 case' y2 =>
  refine x_call T.en_64 (schemaOwn_any _ ho) ?_
 case' n2 =>
  refine br (fun hc3 => ?y3) (fun hc3 => ?n3)
 all_goals (refine ⟨?_, ⟨⟨ht, (by first | rfl | (simp only [hOf, hset, hpost, htm, hmt, if_true, if_false, not_false_eq_true]; first | done | rfl))⟩, ⟨hm, (by first | rfl | (simp only [hOf, hset, hpost, htm, hmt, if_true, if_false, not_false_eq_true]; first | done | rfl))⟩, trivial⟩⟩; simp only [fitsL, fits, C.asD, and_true] <;> (simp_all))
end Go.Vm
end
section
namespace Go.Vm
open Go.RowKit Go.Proofs
set_option linter.unusedVariables false
set_option linter.unusedSimpArgs false
set_option maxRecDepth 10000

set_option maxHeartbeats 1000000 in
theorem settle_any (t m : Nat) (ht : NAM ≤ t) (hm : NAM ≤ m) (htm : ¬ t = m) (E : List EdgeD) (l : List (TagD × NodeD)) (hE : E.length ≤ 1000) (hg : Good E) (hl : Half E l) : ContractH Tryz.prog 71 [.ptr t 0] [(t, .obj [.mp m]), (m, .mapo (ents l))] [] [(t, .obj [.mp m]), (m, .mapo (ents (nodesOf E)))] := by
 refine T.fnH [11, 14, 24] Tryz.func71 ?_ (by simp only [List.forall_mem_cons, List.not_mem_nil, false_implies, implies_true, and_true]; exact ⟨ht, hm⟩) (by simp [thing]) (by simp [thing])
 have hmt : ¬ m = t := fun e => htm e.symm
 refine xscope (fb := [11, 14, 24]) T.ok (Nat.le_of_ble_eq_true rfl) [0] (fun (l2 : List (TagD × NodeD)) => 0) (fun _ => [0]) (fun (l2 : List (TagD × NodeD)) => []) (fun (l2 : List (TagD × NodeD)) => (hset (hOf [(t, .obj [.mp m]), (m, .mapo (ents l))]) m (.mapo (ents l2)))) (fun (l2 : List (TagD × NodeD)) => Half E l2) (fun (l2 : List (TagD × NodeD)) => pends l2) (fun z _ => by rfl) (by repeat (first | exact trivial | refine And.intro (fun _ => rfl) ?_)) (fun z _ => by (repeat (first | exact trivial | refine And.intro (fun _ => rfl) ?_))) ?p1 ?f1
 case' p1 =>
  rintro l2 hl2
  refine x_obj ht (by first | rfl | (simp only [hOf, hset, hpost, htm, hmt, if_true, if_false, not_false_eq_true]; first | done | rfl)) ?_
  refine x_range ?_ ⟨hm, (by first | rfl | (simp only [hOf, hset, hpost, htm, hmt, if_true, if_false, not_false_eq_true]; first | done | rfl))⟩ Tryz.underlying111 (ents_len _)
  refine xloopR (fb := [11, 14, 24]) T.ok (Nat.le_of_ble_eq_true rfl) [0] (fun (seen : List Nat) => [(11, .iter m l2.length seen)]) (fun seen => ∀ j ∈ seen, quiet l2 j) (fun seen => unseen l2.length seen) [] (by simp) (x_ent (by first | rfl | (simp only [Tr.get]; simp; done)) trivial) ?_
  rintro seen hq
  refine Exists.intro _ (And.intro ⟨hm, (by first | rfl | (simp only [hOf, hset, hpost, htm, hmt, if_true, if_false, not_false_eq_true]; first | done | rfl)), ents_len _⟩ (And.intro (fun hd1 => ?d1) (fun iq pq hpq hiq => ?g1)))
  case' d1 =>
   have hfin := hl2.over hg (fun j hj => hq j (hd1 j hj))
   refine brF ?_
  case' g1 =>
   obtain ⟨q, hqi, rfl⟩ := ents_at hpq
   have hm1 := List.mem_of_getElem? hqi
   have hlt1 := (List.getElem?_eq_some_iff.1 hqi).1
   refine brT ?_
   refine x_entry ?_ ⟨hm, (by first | rfl | (simp only [hOf, hset, hpost, htm, hmt, if_true, if_false, not_false_eq_true]; first | done | rfl))⟩ (ents_len _) hpq
   refine br (fun hc4 => ?y4) (fun hc4 => ?n4)
   case' y4 =>
    have hqt : quiet l2 iq := fun p hp => by rw [hqi] at hp; injection hp with hp; subst hp; exact .inl hc4
    refine x_rnd (seen ++ [iq]) (by intro j hj; rcases List.mem_append.1 hj with hj | hj; exact hq j hj; rw [List.mem_singleton.1 hj]; exact hqt) (by (try dsimp only); exact unseen_next hlt1 hiq) rfl (x_ent (by first | rfl | (simp only [Tr.get]; simp; done)) trivial) rfl
   case' n4 =>
    have hst := hc4
    obtain ⟨hpe, hpk, hpm⟩ := hl2.pend hg hm1 hst
    refine x_callR T.en_63 (at_any t m ht hm htm l2 q.2.edge.parent) ?_ ⟨⟨ht, (by first | rfl | (simp only [hOf, hset, hpost, htm, hmt, if_true, if_false, not_false_eq_true]; first | done | rfl))⟩, ⟨hm, (by first | rfl | (simp only [hOf, hset, hpost, htm, hmt, if_true, if_false, not_false_eq_true]; first | done | rfl))⟩, trivial⟩
    refine br (fun hg5 => ?y5) (fun hg5 => ?n5)
    case' y5 =>
     refine br (fun hc6 => ?y6) (fun hc6 => ?n6)
     case' y6 =>
      have hqt : quiet l2 iq := fun p hp => by rw [hqi] at hp; injection hp with hp; subst hp; exact .inr (by omega)
      refine x_rnd (seen ++ [iq]) (by intro j hj; rcases List.mem_append.1 hj with hj | hj; exact hq j hj; rw [List.mem_singleton.1 hj]; exact hqt) (by (try dsimp only); exact unseen_next hlt1 hiq) rfl (x_ent (by first | rfl | (simp only [Tr.get]; simp; done)) trivial) rfl
     case' n6 =>
      refine br (fun hc7 => ?y7) (fun hc7 => ?n7)
      case' y7 =>
       exfalso; omega
      case' n7 =>
       have hv := hl2.dead hg hpm hpe (by omega)
       refine And.intro ⟨T.mixed, by decide +kernel⟩ ?_
       have hput := hl2.put hg hqi
       have hns : ¬ (nodeOf E q.2.edge).state = 1 := by rw [hv]; simp
       refine x_obj ht (by first | rfl | (simp only [hOf, hset, hpost, htm, hmt, if_true, if_false, not_false_eq_true]; first | done | rfl)) ?_
       refine x_put (es' := ents (putT q.1 (nodeOf E q.2.edge) l2)) ?_ ⟨hm, (by first | rfl | (simp only [hOf, hset, hpost, htm, hmt, if_true, if_false, not_false_eq_true]; first | done | rfl))⟩ tagKey ⟨_, rfl⟩ (ents_keys _) Tryz.underlying111 (by rw [hv]; exact ents_put l2 q.1 _)
       refine x_jmp (putT q.1 (nodeOf E q.2.edge) l2) hput.2 rfl (by (try dsimp only [jlt, Sum.elim_inl, Sum.elim_inr]); rw [hput.1]; exact pends_put hqi hst hns) rfl trivial (by first | rfl | exact (hset_hset _ _ _ _).symm | exact hset_self (by first | rfl | (simp only [hOf, hset, hpost, htm, hmt, if_true, if_false, not_false_eq_true]; first | done | rfl)))
    case' n5 =>
     refine brF ?_
     refine br (fun hc9 => ?y9) (fun hc9 => ?n9)
     case' y9 =>
      have hat := hl2.at (id := q.2.edge.parent) (.inl hc9)
      have hup := hc9
      have hoX := hg.ok _ hpm
      have hoS : okL (atT l2 q.2.edge.parent).schema := by rw [hat.2.1]; exact okL_comes hg.ok _ _
      have hdp : 0 ≤ (atT l2 q.2.edge.parent).depth ∧ (atT l2 q.2.edge.parent).depth ≤ ((E.length + 1 : Nat) : Int) := by rw [hat.2.2]; exact depth_le _ _
      refine x_call T.en_125 (apply_any _ _ hoS hoX) ?_
      refine br (fun hc10 => ?y10) (fun hc10 => ?n10)
      case' y10 =>
       have hv := hl2.live hg hpm hup hc10
       refine And.intro ⟨T.mixed, by decide +kernel⟩ ?_
       first | refine x_inc ?_ | refine x_add ?_ | refine x_bin rfl rfl ?_
       refine And.intro ⟨T.mixed, by decide +kernel⟩ ?_
       have hput := hl2.put hg hqi
       have hns : ¬ (nodeOf E q.2.edge).state = 1 := by rw [hv]; simp
       refine x_obj ht (by first | rfl | (simp only [hOf, hset, hpost, htm, hmt, if_true, if_false, not_false_eq_true]; first | done | rfl)) ?_
       refine x_put (es' := ents (putT q.1 (nodeOf E q.2.edge) l2)) ?_ ⟨hm, (by first | rfl | (simp only [hOf, hset, hpost, htm, hmt, if_true, if_false, not_false_eq_true]; first | done | rfl))⟩ tagKey ⟨_, rfl⟩ (ents_keys _) Tryz.underlying111 (by rw [hv]; exact ents_put l2 q.1 _)
       refine x_jmp (putT q.1 (nodeOf E q.2.edge) l2) hput.2 rfl (by (try dsimp only [jlt, Sum.elim_inl, Sum.elim_inr]); rw [hput.1]; exact pends_put hqi hst hns) rfl trivial (by first | rfl | exact (hset_hset _ _ _ _).symm | exact hset_self (by first | rfl | (simp only [hOf, hset, hpost, htm, hmt, if_true, if_false, not_false_eq_true]; first | done | rfl)))
      case' n10 =>
       have hv := hl2.unfit hg hpm hpe hup hc10
       refine And.intro ⟨T.mixed, by decide +kernel⟩ ?_
       have hput := hl2.put hg hqi
       have hns : ¬ (nodeOf E q.2.edge).state = 1 := by rw [hv]; simp
       refine x_obj ht (by first | rfl | (simp only [hOf, hset, hpost, htm, hmt, if_true, if_false, not_false_eq_true]; first | done | rfl)) ?_
       refine x_put (es' := ents (putT q.1 (nodeOf E q.2.edge) l2)) ?_ ⟨hm, (by first | rfl | (simp only [hOf, hset, hpost, htm, hmt, if_true, if_false, not_false_eq_true]; first | done | rfl))⟩ tagKey ⟨_, rfl⟩ (ents_keys _) Tryz.underlying111 (by rw [hv]; exact ents_put l2 q.1 _)
       refine x_jmp (putT q.1 (nodeOf E q.2.edge) l2) hput.2 rfl (by (try dsimp only [jlt, Sum.elim_inl, Sum.elim_inr]); rw [hput.1]; exact pends_put hqi hst hns) rfl trivial (by first | rfl | exact (hset_hset _ _ _ _).symm | exact hset_self (by first | rfl | (simp only [hOf, hset, hpost, htm, hmt, if_true, if_false, not_false_eq_true]; first | done | rfl)))
     case' n9 =>
      exfalso; omega
 case' f1 =>
  skip
  refine x_jmp l hl rfl trivial rfl trivial (by first | rfl | exact (hset_hset _ _ _ _).symm | exact hset_self (by first | rfl | (simp only [hOf, hset, hpost, htm, hmt, if_true, if_false, not_false_eq_true]; first | done | rfl)))
 all_goals (refine ⟨?_, ⟨⟨ht, (by first | rfl | (simp only [hOf, hset, hpost, htm, hmt, if_true, if_false, not_false_eq_true]; first | done | rfl))⟩, ⟨hm, by rw [← hfin]; exact (by first | rfl | (simp only [hOf, hset, hpost, htm, hmt, if_true, if_false, not_false_eq_true]; first | done | rfl))⟩, trivial⟩⟩; simp only [fitsL, fits, C.asD, and_true] <;> (trivial))
end Go.Vm
end
section
namespace Go.Vm
open Go.RowKit Go.Proofs
set_option linter.unusedVariables false
set_option linter.unusedSimpArgs false
set_option maxRecDepth 10000

set_option maxHeartbeats 1000000 in
theorem new_any (t m : Nat) (ht : NAM ≤ t) (hm : NAM ≤ m) (htm : ¬ t = m) : ContractH Tryz.prog 39 [] [(t, .free), (m, .free)] [.d (.ptr t 0)] [(t, .obj [.mp m]), (m, .mapo (ents (nodesOf [])))] := by
 refine T.fnH [1, 3] Tryz.func39 ?_ (by simp only [List.forall_mem_cons, List.not_mem_nil, false_implies, implies_true, and_true]; exact ⟨ht, hm⟩) (by simp [thing]) (by simp [thing])
 have hmt : ¬ m = t := fun e => htm e.symm
 refine x_mkmap m ?_ ⟨hm, (by first | rfl | (simp only [hOf, hset, hpost, htm, hmt, if_true, if_false, not_false_eq_true]; first | done | rfl))⟩
 refine x_newbox t ?_ ⟨ht, (by first | rfl | (simp only [hOf, hset, hpost, htm, hmt, if_true, if_false, not_false_eq_true]; first | done | rfl))⟩
 all_goals (refine ⟨?_, ⟨⟨ht, (by first | rfl | (simp only [hOf, hset, hpost, htm, hmt, if_true, if_false, not_false_eq_true]; first | done | rfl))⟩, ⟨hm, (by first | rfl | (simp only [hOf, hset, hpost, htm, hmt, if_true, if_false, not_false_eq_true]; first | done | rfl))⟩, trivial⟩⟩; simp only [fitsL, fits, C.asD, and_true] <;> (trivial))

set_option maxHeartbeats 1000000 in
theorem put_any (t m : Nat) (ht : NAM ≤ t) (hm : NAM ≤ m) (htm : ¬ t = m) (E : List EdgeD) (e : EdgeD) (hE : E.length ≤ 900) (hg : Good E) (he : okX e.lens) : ContractH Tryz.prog 38 [.ptr t 0, eD e] [(t, .obj [.mp m]), (m, .mapo (ents (nodesOf E)))] [.d (.sc (.int .i64 (putE E e).2))] [(t, .obj [.mp m]), (m, .mapo (ents (nodesOf (putE E e).1)))] := by
 refine T.fnH [19, 31, 52] Tryz.func38 ?_ (by simp only [List.forall_mem_cons, List.not_mem_nil, false_implies, implies_true, and_true]; exact ⟨ht, hm⟩) (by simp [thing]) (by simp [thing])
 have hmt : ¬ m = t := fun e => htm e.symm
 first | refine And.intro ⟨_, Tryz.underlying53⟩ ?_ | refine x_bin rfl rfl ?_
 refine brF ?_
 refine x_call T.en_9 (edge_any e he) ?_
 refine br (fun hc2 => ?y2) (fun hc2 => ?n2)
 case' y2 =>
  have hpu := put_e5 (E := E) hc2
 case' n2 =>
  have hb : edgeB e = true := hc2
  refine And.intro ⟨T.mixed, by decide +kernel⟩ ?_
  refine x_obj ht (by first | rfl | (simp only [hOf, hset, hpost, htm, hmt, if_true, if_false, not_false_eq_true]; first | done | rfl)) ?_
  refine q_look2 ?_ ⟨hm, (by first | rfl | (simp only [hOf, hset, hpost, htm, hmt, if_true, if_false, not_false_eq_true]; first | done | rfl))⟩ tagKey ⟨_, rfl⟩ (ents_keys _) Tryz.underlying111 zeroNode (look_node _ _) (look_found _ _)
  refine br (fun hc3 => ?y3) (fun hc3 => ?n3)
  case' y3 =>
   obtain ⟨f, hf, hnd, hfm⟩ := find_some hc3
   refine x_call T.en_11 (same_any ((findT e.id (nodesOf E)).getD noNode).edge e (by rw [hnd]; exact hg.ok _ hfm)) ?_
   refine br (fun hc4 => ?y4) (fun hc4 => ?n4)
   case' y4 =>
    have hpu := put_e7 hb hf (by rw [hnd] at hc4; exact hc4)
   case' n4 =>
    have hpu := put_e15 hb hf (by rw [hnd] at hc4; exact hc4)
  case' n3 =>
   obtain ⟨hf, hf2⟩ := find_miss hc3
   refine x_obj ht (by first | rfl | (simp only [hOf, hset, hpost, htm, hmt, if_true, if_false, not_false_eq_true]; first | done | rfl)) ?_
   refine x_lenm ?_ ⟨hm, (by first | rfl | (simp only [hOf, hset, hpost, htm, hmt, if_true, if_false, not_false_eq_true]; first | done | rfl))⟩ Tryz.underlying111 nodes_len
   refine br (fun hc5 => ?y5) (fun hc5 => ?n5)
   case' y5 =>
    have hpu := put_e9 hb hf (by omega)
   case' n5 =>
    have hpu := put_e0 hb hf (by omega)
    have hgm := hg.more he hb hf
    refine x_obj ht (by first | rfl | (simp only [hOf, hset, hpost, htm, hmt, if_true, if_false, not_false_eq_true]; first | done | rfl)) ?_
    first | refine And.intro ⟨_, _, Tryz.underlying111⟩ ?_ | refine x_bin rfl rfl ?_
    refine brF ?_
    refine And.intro ⟨T.mixed, by decide +kernel⟩ ?_
    refine x_obj ht (by first | rfl | (simp only [hOf, hset, hpost, htm, hmt, if_true, if_false, not_false_eq_true]; first | done | rfl)) ?_
    refine x_call T.en_66 (own_any e he) ?_
    refine x_put (es' := ents (nodesOf E ++ [(e.id, pend e)])) ?_ ⟨hm, (by first | rfl | (simp only [hOf, hset, hpost, htm, hmt, if_true, if_false, not_false_eq_true]; first | done | rfl))⟩ tagKey ⟨_, rfl⟩ (ents_keys _) Tryz.underlying111 (by rw [← putT_new hf2]; exact ents_put (nodesOf E) e.id (pend e))
    refine x_callH T.en_71 (settle_any t m ht hm htm (E ++ [e]) (nodesOf E ++ [(e.id, pend e)]) (by rw [List.length_append]; simp; omega) hgm (nodes_half hgm)) ?_ ⟨⟨ht, (by first | rfl | (simp only [hOf, hset, hpost, htm, hmt, if_true, if_false, not_false_eq_true]; first | done | rfl))⟩, ⟨hm, (by first | rfl | (simp only [hOf, hset, hpost, htm, hmt, if_true, if_false, not_false_eq_true]; first | done | rfl))⟩, trivial⟩
 all_goals (refine ⟨?_, ⟨⟨ht, (by first | rfl | (simp only [hOf, hset, hpost, htm, hmt, if_true, if_false, not_false_eq_true]; first | done | rfl))⟩, ⟨hm, by rw [hpu]; exact (by first | rfl | (simp only [hOf, hset, hpost, htm, hmt, if_true, if_false, not_false_eq_true]; first | done | rfl))⟩, trivial⟩⟩; simp only [fitsL, fits, C.asD, and_true] <;> (rw [hpu]))
end Go.Vm
end
section
namespace Go.Vm
open Go.RowKit Go.Proofs
set_option linter.unusedVariables false
set_option linter.unusedSimpArgs false
set_option maxRecDepth 10000

def exA : EdgeD := ⟨⟨1, 1⟩, noTag, ⟨2, noRef, noB, noB, 0, ⟨⟨0, noB, ⟨#[120]⟩⟩, 4, noB, [], 0⟩, [], []⟩⟩
def exB : EdgeD := ⟨⟨2, 1⟩, ⟨1, 1⟩, ⟨1, ⟨0, noB, ⟨#[120]⟩⟩, ⟨#[121]⟩, noB, 0, noField, [], []⟩⟩
theorem ex1 : putE [] exB = ([exB], 0) := by kernel_rfl
theorem ex2 : putE [exB] exA = ([exB, exA], 0) := by kernel_rfl
theorem ex3 : (atT (nodesOf [exB]) exB.id).state = 1 := by kernel_rfl
theorem ex4 : (atT (nodesOf [exB, exA]) exB.id).state = 2 := by kernel_rfl
theorem ex5 : (atT (nodesOf [exB, exA]) exB.id).depth = 2 := by kernel_rfl
theorem good_nil : Good [] := ⟨by simp, by simp, .nil⟩
theorem okA : okX exA.lens := ⟨by decide, by decide, by decide⟩
theorem okB : okX exB.lens := ⟨by decide, by decide, by decide⟩
theorem good1 : Good [exB] := by have := good_nil.put okB; rwa [ex1] at this
theorem exPut1 (t m : Nat) (ht : NAM ≤ t) (hm : NAM ≤ m) (htm : ¬ t = m) : ContractH Tryz.prog 38 [.ptr t 0, eD exB] [(t, .obj [.mp m]), (m, .mapo (ents (nodesOf [])))] [.d (.sc (.int .i64 0))] [(t, .obj [.mp m]), (m, .mapo (ents (nodesOf [exB])))] := by
  have := put_any t m ht hm htm [] exB (by simp) good_nil okB
  rwa [ex1] at this
theorem exPut2 (t m : Nat) (ht : NAM ≤ t) (hm : NAM ≤ m) (htm : ¬ t = m) : ContractH Tryz.prog 38 [.ptr t 0, eD exA] [(t, .obj [.mp m]), (m, .mapo (ents (nodesOf [exB])))] [.d (.sc (.int .i64 0))] [(t, .obj [.mp m]), (m, .mapo (ents (nodesOf [exB, exA])))] := by
  have := put_any t m ht hm htm [exB] exA (by simp) good1 okA
  rwa [ex2] at this
theorem exState1 (t m : Nat) (ht : NAM ≤ t) (hm : NAM ≤ m) (htm : ¬ t = m) : ContractH Tryz.prog 26 [.ptr t 0, tD exB.id] [(t, .obj [.mp m]), (m, .mapo (ents (nodesOf [exB])))] [.d (.sc (.int .i64 1))] [(t, .obj [.mp m]), (m, .mapo (ents (nodesOf [exB])))] := by
  have := state_any t m ht hm htm (nodesOf [exB]) exB.id
  rwa [ex3] at this
theorem exState2 (t m : Nat) (ht : NAM ≤ t) (hm : NAM ≤ m) (htm : ¬ t = m) : ContractH Tryz.prog 26 [.ptr t 0, tD exB.id] [(t, .obj [.mp m]), (m, .mapo (ents (nodesOf [exB, exA])))] [.d (.sc (.int .i64 2))] [(t, .obj [.mp m]), (m, .mapo (ents (nodesOf [exB, exA])))] := by
  have := state_any t m ht hm htm (nodesOf [exB, exA]) exB.id
  rwa [ex4] at this
theorem exDepth (t m : Nat) (ht : NAM ≤ t) (hm : NAM ≤ m) (htm : ¬ t = m) : ContractH Tryz.prog 28 [.ptr t 0, tD exB.id] [(t, .obj [.mp m]), (m, .mapo (ents (nodesOf [exB, exA])))] [.d (.sc (.int .i64 2))] [(t, .obj [.mp m]), (m, .mapo (ents (nodesOf [exB, exA])))] := by
  have := depth_any t m ht hm htm (nodesOf [exB, exA]) exB.id
  rwa [ex4, ex5, if_pos rfl] at this

set_option maxHeartbeats 1000000 in
theorem awake_any (t m : Nat) (ht : NAM ≤ t) (hm : NAM ≤ m) (htm : ¬ t = m) : ContractH Tryz.prog 6 [] [(t, .free), (m, .free)] [.d (.sc (.bool (true)))] [(t, .obj [.mp m]), (m, .mapo (ents (nodesOf [exB, exA])))] := by
 refine T.fnH [7, 21, 25, 28, 43, 50] Tryz.func6 ?_ (by simp only [List.forall_mem_cons, List.not_mem_nil, false_implies, implies_true, and_true]; exact ⟨ht, hm⟩) (by simp [thing]) (by simp [thing])
 have hmt : ¬ m = t := fun e => htm e.symm
 refine x_callH T.en_39 (new_any t m ht hm htm) ?_ ⟨⟨ht, (by first | rfl | (simp only [hOf, hset, hpost, htm, hmt, if_true, if_false, not_false_eq_true]; first | done | rfl))⟩, ⟨hm, (by first | rfl | (simp only [hOf, hset, hpost, htm, hmt, if_true, if_false, not_false_eq_true]; first | done | rfl))⟩, trivial⟩
 refine x_callH T.en_38 (exPut1 t m ht hm htm) ?_ ⟨⟨ht, (by first | rfl | (simp only [hOf, hset, hpost, htm, hmt, if_true, if_false, not_false_eq_true]; first | done | rfl))⟩, ⟨hm, (by first | rfl | (simp only [hOf, hset, hpost, htm, hmt, if_true, if_false, not_false_eq_true]; first | done | rfl))⟩, trivial⟩
 refine x_callR T.en_26 (exState1 t m ht hm htm) ?_ ⟨⟨ht, (by first | rfl | (simp only [hOf, hset, hpost, htm, hmt, if_true, if_false, not_false_eq_true]; first | done | rfl))⟩, ⟨hm, (by first | rfl | (simp only [hOf, hset, hpost, htm, hmt, if_true, if_false, not_false_eq_true]; first | done | rfl))⟩, trivial⟩
 refine x_callH T.en_38 (exPut2 t m ht hm htm) ?_ ⟨⟨ht, (by first | rfl | (simp only [hOf, hset, hpost, htm, hmt, if_true, if_false, not_false_eq_true]; first | done | rfl))⟩, ⟨hm, (by first | rfl | (simp only [hOf, hset, hpost, htm, hmt, if_true, if_false, not_false_eq_true]; first | done | rfl))⟩, trivial⟩
 refine br (fun hg1 => ?y1) (fun hg1 => ?n1)
 case' y1 =>
  refine br (fun hg2 => ?y2) (fun hg2 => ?n2)
  case' y2 =>
   refine br (fun hg3 => ?y3) (fun hg3 => ?n3)
   case' y3 =>
    refine x_callR T.en_26 (exState2 t m ht hm htm) ?_ ⟨⟨ht, (by first | rfl | (simp only [hOf, hset, hpost, htm, hmt, if_true, if_false, not_false_eq_true]; first | done | rfl))⟩, ⟨hm, (by first | rfl | (simp only [hOf, hset, hpost, htm, hmt, if_true, if_false, not_false_eq_true]; first | done | rfl))⟩, trivial⟩
    refine br (fun hg4 => ?y4) (fun hg4 => ?n4)
    case' y4 =>
     refine x_callR T.en_28 (exDepth t m ht hm htm) ?_ ⟨⟨ht, (by first | rfl | (simp only [hOf, hset, hpost, htm, hmt, if_true, if_false, not_false_eq_true]; first | done | rfl))⟩, ⟨hm, (by first | rfl | (simp only [hOf, hset, hpost, htm, hmt, if_true, if_false, not_false_eq_true]; first | done | rfl))⟩, trivial⟩
   case' n3 =>
    refine brF ?_
  case' n2 =>
   refine brF ?_
   refine brF ?_
 case' n1 =>
  refine brF ?_
  refine brF ?_
  refine brF ?_
 all_goals (refine ⟨?_, ⟨⟨ht, (by first | rfl | (simp only [hOf, hset, hpost, htm, hmt, if_true, if_false, not_false_eq_true]; first | done | rfl))⟩, ⟨hm, (by first | rfl | (simp only [hOf, hset, hpost, htm, hmt, if_true, if_false, not_false_eq_true]; first | done | rfl))⟩, trivial⟩⟩; simp only [fitsL, fits, C.asD, and_true] <;> (first | rfl | (exfalso; simp_all; done)))
end Go.Vm
end
section
namespace Go.Vm
open Go.RowKit Go.Proofs
set_option linter.unusedVariables false
set_option linter.unusedSimpArgs false
set_option maxRecDepth 10000

theorem penNewOk_any (t : Nat) (ht : NAM ≤ t) (b : List UInt8) (f : Int) (hb : b.length ≤ 8000000) (hf : fmtF f) : ContractH Tryz.prog 13 [.row (byD b), .sc (.int .i64 (f))] [(t, .free)] [.d (.ptr t 0)] [(t, rdS b f (0, false))] := by
  have := penNew_any t ht b f hb
  rwa [decide_eq_true hf] at this

set_option maxHeartbeats 1000000 in
theorem treeBytes_any (e : EdgeD) (f : Int) (b : List UInt8) (hi : okIE e) : ContractH Tryz.prog 3 [eD e, .sc (.int .i64 (f)), .row (byD b)] [(1000000, .free), (1000001, .free), (1000002, .free), (1000003, .free), (1000004, .free)] [.d (.sc (.bool (true)))] [] := by
 refine T.fnH [17, 43, 48, 49, 56, 58, 61, 65, 77, 93, 95, 105, 117] Tryz.func3 ?_ (by simp only [List.forall_mem_cons, List.not_mem_nil, false_implies, implies_true, and_true]; decide) (by simp [thing]) (by simp [thing])
 refine x_callH T.en_6 (awake_any 1000000 1000001 (by decide) (by decide) (by decide)) ?_ ⟨⟨by decide, rfl⟩, ⟨by decide, rfl⟩, trivial⟩
 refine brF ?_
 refine x_call T.en_7 (refLensHeavy_any e.lens) ?_
 refine br (fun hg2 => ?y2) (fun hg2 => ?n2)
 case' y2 =>
  refine brT ?_
 case' n2 =>
  have hh1 : heavyL e.lens = false := by simpa using hg2
  refine x_len ?_
  refine br (fun hc4 => ?y4) (fun hc4 => ?n4)
  case' n4 =>
   have hB := heavyL_okB hh1 hi.2.2
   have hx0 := rightL_okX hB
   have hpl := edgeP_len (f := f) hi hB
   refine x_call T.en_8 (treePut_any [9] f e (by decide) hi hB) ?_
   refine And.intro ⟨T.mixed, by decide +kernel⟩ ?_
   refine x_call T.en_9 (edge_any e hx0) ?_
   refine x_call T.en_10 (refEdge_any e hx0) ?_
   first | refine x_bin (pr_neb Tryz.underlying4) rfl ?_ | refine x_bin rfl rfl ?_
   refine br (fun hc5 => ?y5) (fun hc5 => ?n5)
   case' y5 =>
    exfalso; simp_all
   case' n5 =>
    refine br (fun hg6 => ?y6) (fun hg6 => ?n6)
    case' y6 =>
     refine br (fun hc7 => ?y7) (fun hc7 => ?n7)
     case' y7 =>
      have hf : ¬ fmtF f := by unfold fmtF; omega
      have hlw := edgeP_wrong hf e
      have hg := edgeR_badS (b := b) (f := f) (s := (0, !decide (fmtF f))) (badR_wrong hf)
      refine x_tostr Tryz.underlying34 Tryz.underlying5 Tryz.underlying9 (l := [9] ++ (edgeP f e)) ?_
      refine br (fun hg8 => ?y8) (fun hg8 => ?n8)
      case' y8 =>
       refine x_callH T.en_13 (penNew_any 1000002 (by decide) b f (by omega)) ?_ ⟨⟨(by decide), (by first | rfl | (simp only [hOf, hset, hpost, if_true, if_false, not_false_eq_true]; first | done | rfl))⟩, trivial⟩
       refine x_callH T.en_12 (treeGet_any 1000002 (by decide) b f (0, !decide (fmtF f)) (by omega) (Nat.zero_le _)) ?_ ⟨⟨(by decide), (by first | rfl | (simp only [hOf, hset, hpost, if_true, if_false, not_false_eq_true]; first | done | rfl))⟩, trivial⟩
       refine x_call T.en_11 (same_any (edgeR b f (0, !decide (fmtF f))).1 noEdge edgeR_okX) ?_
      case' n8 =>
       exact absurd (show strL ([9] ++ edgeP f e) = ⟨#[9]⟩ by rw [hlw]; rfl) hg8
     case' n7 =>
      have hf : fmtF f := by unfold fmtF; omega
      have hle : (edgeR (edgeP f e) f (0, false)).2.1 ≤ (edgeP f e).length := edgeR_inv (Nat.zero_le _)
      first | refine x_bnd ?_ | refine x_bndI ?_
      refine x_row ?_ (by first | exact one_wide | exact byD_wide _) (h1 := by ((try simp only [byD_len, List.length_append, List.length_nil, List.length_cons, List.length_map, Int.natCast_add]); omega)) (h2 := by ((try simp only [byD_len, List.length_append, List.length_nil, List.length_cons, List.length_map, Int.natCast_add]); omega)) (hy := by first | exact byD_tl | exact rfl | rfl)
      refine x_callH T.en_13 (penNewOk_any 1000002 (by decide) (edgeP f e) f (by omega) hf) ?_ ⟨⟨(by decide), (by first | rfl | (simp only [hOf, hset, hpost, if_true, if_false, not_false_eq_true]; first | done | rfl))⟩, trivial⟩
      refine x_callH T.en_12 (treeGet_any 1000002 (by decide) (edgeP f e) f (0, false) (by omega) (Nat.zero_le _)) ?_ ⟨⟨(by decide), (by first | rfl | (simp only [hOf, hset, hpost, if_true, if_false, not_false_eq_true]; first | done | rfl))⟩, trivial⟩
      refine And.intro ⟨T.mixed, by decide +kernel⟩ ?_
      first | refine x_bnd ?_ | refine x_bndI ?_
      refine x_row ?_ (by first | exact one_wide | exact byD_wide _) (h1 := by ((try simp only [byD_len, List.length_append, List.length_nil, List.length_cons, List.length_map, Int.natCast_add]); omega)) (h2 := by ((try simp only [byD_len, List.length_append, List.length_nil, List.length_cons, List.length_map, Int.natCast_add]); omega)) (hy := by first | exact byD_tl | exact rfl | rfl)
      refine q_tostr Tryz.underlying34 Tryz.underlying5 Tryz.underlying9 (l := (edgeP f e)) ?_
      refine x_call T.en_14 (r17Bytes_any f e hf hi hB) ?_
      refine q_tostr Tryz.underlying34 Tryz.underlying5 Tryz.underlying9 (l := (edgeP f e)) ?_
      refine br (fun hg9 => ?y9) (fun hg9 => ?n9)
      case' y9 =>
       exact absurd rfl hg9
      case' n9 =>
       refine x_call T.en_10 (refEdge_any e hx0) ?_
       refine br (fun hg10 => ?y10) (fun hg10 => ?n10)
       case' y10 =>
        have hro := edge_round hf hg10
        refine x_call T.en_15 (by first | exact refSame_any e _ hx0 | exact refSame_any (edgeR r f (0, false)).1 _ edgeR_okX) ?_
        refine br (fun hg11 => ?y11) (fun hg11 => ?n11)
        case' y11 =>
         exact absurd (by rw [hro]) hg11
        case' n11 =>
         refine q_callR T.en_16 (end_any 1000002 (by decide) (edgeP f e) f (edgeR (edgeP f e) f (0, false)).2 (by omega) hle) ?_ ⟨⟨(by decide), (by first | rfl | (simp only [hOf, hset, hpost, if_true, if_false, not_false_eq_true]; first | done | rfl))⟩, trivial⟩
         refine br (fun hc12 => ?y12) (fun hc12 => ?n12)
         case' y12 =>
          exact absurd (by rw [hro]; exact end_zero hf) hc12
         case' n12 =>
          first | refine x_bnd ?_ | refine x_bndI ?_
          refine x_row ?_ (by first | exact one_wide | exact byD_wide _) (h1 := by ((try simp only [byD_len, List.length_append, List.length_nil, List.length_cons, List.length_map, Int.natCast_add]); omega)) (h2 := by ((try simp only [byD_len, List.length_append, List.length_nil, List.length_cons, List.length_map, Int.natCast_add]); omega)) (hy := by first | exact byD_tl | exact rfl | rfl)
          refine x_len ?_
          refine xloop (fb := [17, 43, 48, 49, 56, 58, 61, 65, 77, 93, 95, 105, 117]) T.ok (Nat.le_of_ble_eq_true rfl) [1, 85, 86] (fun (k : Nat) => [(87, .c (.d (.sc (.int .i64 (k : Nat)))))]) (fun k => bodyH 1000003 (fun l => (edgeR l f (0, false)).2) (hpost (hpost (hpost (hOf [(1000000, .free), (1000001, .free), (1000002, .free), (1000003, .free), (1000004, .free)]) [(1000000, .obj [.mp 1000001]), (1000001, .mapo (ents (nodesOf [exB, exA])))]) [(1000002, rdS (edgeP f e) f (0, false))]) [(1000002, rdS (edgeP f e) f (edgeR (edgeP f e) f (0, false)).2)]) f (edgeP f e) b k) (fun k => k ≤ 2) (fun k => 2 - k) 0 (Nat.zero_le _) (x_ent (by first | rfl | (simp only [Tr.get]; simp; done)) trivial) body_zero ?_
          rintro k hk
          refine br (fun hc13 => ?y13) (fun hc13 => ?n13)
          case' y13 =>
           have hk2 : k < 2 := by have h9 := hc13; simp only [List.length_cons, List.length_nil] at h9; omega
           obtain ⟨r, hr⟩ : ∃ r, (if k = 0 then (edgeP f e) else b) = r := ⟨_, rfl⟩
           have hrl : r.length ≤ 8000000 := by rw [← hr]; split <;> omega
           have hbo := edge_both (b := r) hf
           have hrle : (edgeR r f (0, false)).2.1 ≤ r.length := edgeR_inv (Nat.zero_le _)
           have hfree : bodyH 1000003 (fun l => (edgeR l f (0, false)).2) (hpost (hpost (hpost (hOf [(1000000, .free), (1000001, .free), (1000002, .free), (1000003, .free), (1000004, .free)]) [(1000000, .obj [.mp 1000001]), (1000001, .mapo (ents (nodesOf [exB, exA])))]) [(1000002, rdS (edgeP f e) f (0, false))]) [(1000002, rdS (edgeP f e) f (edgeR (edgeP f e) f (0, false)).2)]) f (edgeP f e) b k (1000003 + k) = .free := body_free (by rcases (by omega : k = 0 ∨ k = 1) with rfl | rfl <;> rfl)
           first | refine x_ix (by exact row2_at hr (by omega)) ?_ | refine x_ixI (by exact row2_at hr (by omega)) ?_
           refine x_callH T.en_13 (penNewOk_any (1000003 + k) (by unfold NAM; omega) r f hrl hf) ?_ ⟨⟨(by unfold NAM; omega), hfree⟩, trivial⟩
           refine x_callH T.en_12 (treeGet_any (1000003 + k) (by unfold NAM; omega) r f (0, false) (by omega) (Nat.zero_le _)) ?_ ⟨⟨(by unfold NAM; omega), (by first | rfl | (simp only [hOf, hset, hpost, if_true, if_false, not_false_eq_true]; first | done | rfl))⟩, trivial⟩
           refine x_call T.en_17 (r17Get_any r 0 f (by omega) (Nat.zero_le _)) ?_
           refine x_callR T.en_18 (bad_any (1000003 + k) (by unfold NAM; omega) r f (edgeR r f (0, false)).2 (by omega) hrle) ?_ ⟨⟨(by unfold NAM; omega), (by first | rfl | (simp only [hOf, hset, hpost, if_true, if_false, not_false_eq_true]; first | done | rfl))⟩, trivial⟩
           first | refine x_bin (pr_eqb Tryz.underlying4) rfl ?_ | refine x_bin rfl rfl ?_
           refine br (fun hg14 => ?y14) (fun hg14 => ?n14)
           case' y14 =>
            exact absurd hg14 (by rw [hbo.2.1]; cases (edgeO r 0 f).isSome <;> decide)
           case' n14 =>
            refine x_call T.en_15 (by first | exact refSame_any e _ hx0 | exact refSame_any (edgeR r f (0, false)).1 _ edgeR_okX) ?_
            refine br (fun hg15 => ?y15) (fun hg15 => ?n15)
            case' y15 =>
             exact absurd hbo.1 hg15
            case' n15 =>
             refine br (fun hg16 => ?y16) (fun hg16 => ?n16)
             case' y16 =>
              have hok := hg16
              refine x_callR T.en_19 (left_any (1000003 + k) (by unfold NAM; omega) r f (edgeR r f (0, false)).2 (by omega) hrle) ?_ ⟨⟨(by unfold NAM; omega), (by first | rfl | (simp only [hOf, hset, hpost, if_true, if_false, not_false_eq_true]; first | done | rfl))⟩, trivial⟩
              refine x_len ?_
              first | refine x_sub ?_ (h := by first | exact IntWalk.i64_in _ (by ((try simp only [byD_len, List.length_append, List.length_nil, List.length_cons, List.length_map, Int.natCast_add]); omega)) | rfl) | refine x_bin rfl rfl ?_
              refine br (fun hc17 => ?y17) (fun hc17 => ?n17)
              case' y17 =>
               have h7 := hbo.2.2 hok
               have h8 := leftR_le (f := f) hrle
               rw [← h7, IntWalk.i64_in _ (by omega)] at hc17
               exact absurd rfl hc17
              case' n17 =>
               first | refine x_inc ?_ (h := by ((try simp only [byD_len, List.length_append, List.length_nil, List.length_cons, List.length_map, Int.natCast_add]); omega)) | refine x_add ?_ (h := by first | exact IntWalk.i64_in _ (by ((try simp only [byD_len, List.length_append, List.length_nil, List.length_cons, List.length_map, Int.natCast_add]); omega)) | rfl) | refine x_bin rfl rfl ?_
               refine x_rnd (k + 1) (by omega) (by (try dsimp only); omega) rfl (x_ent (by first | rfl | (simp only [Tr.get]; simp; done)) trivial) (body_next hr).symm
             case' n16 =>
              refine brF ?_
              first | refine x_inc ?_ (h := by ((try simp only [byD_len, List.length_append, List.length_nil, List.length_cons, List.length_map, Int.natCast_add]); omega)) | refine x_add ?_ (h := by first | exact IntWalk.i64_in _ (by ((try simp only [byD_len, List.length_append, List.length_nil, List.length_cons, List.length_map, Int.natCast_add]); omega)) | rfl) | refine x_bin rfl rfl ?_
              refine x_rnd (k + 1) (by omega) (by (try dsimp only); omega) rfl (x_ent (by first | rfl | (simp only [Tr.get]; simp; done)) trivial) (body_next hr).symm
       case' n10 =>
        refine brF ?_
        first | refine x_bnd ?_ | refine x_bndI ?_
        refine x_row ?_ (by first | exact one_wide | exact byD_wide _) (h1 := by ((try simp only [byD_len, List.length_append, List.length_nil, List.length_cons, List.length_map, Int.natCast_add]); omega)) (h2 := by ((try simp only [byD_len, List.length_append, List.length_nil, List.length_cons, List.length_map, Int.natCast_add]); omega)) (hy := by first | exact byD_tl | exact rfl | rfl)
        refine x_len ?_
        refine xloop (fb := [17, 43, 48, 49, 56, 58, 61, 65, 77, 93, 95, 105, 117]) T.ok (Nat.le_of_ble_eq_true rfl) [1, 85, 86] (fun (k : Nat) => [(87, .c (.d (.sc (.int .i64 (k : Nat)))))]) (fun k => bodyH 1000003 (fun l => (edgeR l f (0, false)).2) (hpost (hpost (hpost (hOf [(1000000, .free), (1000001, .free), (1000002, .free), (1000003, .free), (1000004, .free)]) [(1000000, .obj [.mp 1000001]), (1000001, .mapo (ents (nodesOf [exB, exA])))]) [(1000002, rdS (edgeP f e) f (0, false))]) [(1000002, rdS (edgeP f e) f (edgeR (edgeP f e) f (0, false)).2)]) f (edgeP f e) b k) (fun k => k ≤ 2) (fun k => 2 - k) 0 (Nat.zero_le _) (x_ent (by first | rfl | (simp only [Tr.get]; simp; done)) trivial) body_zero ?_
        rintro k hk
        refine br (fun hc20 => ?y20) (fun hc20 => ?n20)
        case' y20 =>
         have hk2 : k < 2 := by have h9 := hc20; simp only [List.length_cons, List.length_nil] at h9; omega
         obtain ⟨r, hr⟩ : ∃ r, (if k = 0 then (edgeP f e) else b) = r := ⟨_, rfl⟩
         have hrl : r.length ≤ 8000000 := by rw [← hr]; split <;> omega
         have hbo := edge_both (b := r) hf
         have hrle : (edgeR r f (0, false)).2.1 ≤ r.length := edgeR_inv (Nat.zero_le _)
         have hfree : bodyH 1000003 (fun l => (edgeR l f (0, false)).2) (hpost (hpost (hpost (hOf [(1000000, .free), (1000001, .free), (1000002, .free), (1000003, .free), (1000004, .free)]) [(1000000, .obj [.mp 1000001]), (1000001, .mapo (ents (nodesOf [exB, exA])))]) [(1000002, rdS (edgeP f e) f (0, false))]) [(1000002, rdS (edgeP f e) f (edgeR (edgeP f e) f (0, false)).2)]) f (edgeP f e) b k (1000003 + k) = .free := body_free (by rcases (by omega : k = 0 ∨ k = 1) with rfl | rfl <;> rfl)
         first | refine x_ix (by exact row2_at hr (by omega)) ?_ | refine x_ixI (by exact row2_at hr (by omega)) ?_
         refine x_callH T.en_13 (penNewOk_any (1000003 + k) (by unfold NAM; omega) r f hrl hf) ?_ ⟨⟨(by unfold NAM; omega), hfree⟩, trivial⟩
         refine x_callH T.en_12 (treeGet_any (1000003 + k) (by unfold NAM; omega) r f (0, false) (by omega) (Nat.zero_le _)) ?_ ⟨⟨(by unfold NAM; omega), (by first | rfl | (simp only [hOf, hset, hpost, if_true, if_false, not_false_eq_true]; first | done | rfl))⟩, trivial⟩
         refine x_call T.en_17 (r17Get_any r 0 f (by omega) (Nat.zero_le _)) ?_
         refine x_callR T.en_18 (bad_any (1000003 + k) (by unfold NAM; omega) r f (edgeR r f (0, false)).2 (by omega) hrle) ?_ ⟨⟨(by unfold NAM; omega), (by first | rfl | (simp only [hOf, hset, hpost, if_true, if_false, not_false_eq_true]; first | done | rfl))⟩, trivial⟩
         first | refine x_bin (pr_eqb Tryz.underlying4) rfl ?_ | refine x_bin rfl rfl ?_
         refine br (fun hg21 => ?y21) (fun hg21 => ?n21)
         case' y21 =>
          exact absurd hg21 (by rw [hbo.2.1]; cases (edgeO r 0 f).isSome <;> decide)
         case' n21 =>
          refine x_call T.en_15 (by first | exact refSame_any e _ hx0 | exact refSame_any (edgeR r f (0, false)).1 _ edgeR_okX) ?_
          refine br (fun hg22 => ?y22) (fun hg22 => ?n22)
          case' y22 =>
           exact absurd hbo.1 hg22
          case' n22 =>
           refine br (fun hg23 => ?y23) (fun hg23 => ?n23)
           case' y23 =>
            have hok := hg23
            refine x_callR T.en_19 (left_any (1000003 + k) (by unfold NAM; omega) r f (edgeR r f (0, false)).2 (by omega) hrle) ?_ ⟨⟨(by unfold NAM; omega), (by first | rfl | (simp only [hOf, hset, hpost, if_true, if_false, not_false_eq_true]; first | done | rfl))⟩, trivial⟩
            refine x_len ?_
            first | refine x_sub ?_ (h := by first | exact IntWalk.i64_in _ (by ((try simp only [byD_len, List.length_append, List.length_nil, List.length_cons, List.length_map, Int.natCast_add]); omega)) | rfl) | refine x_bin rfl rfl ?_
            refine br (fun hc24 => ?y24) (fun hc24 => ?n24)
            case' y24 =>
             have h7 := hbo.2.2 hok
             have h8 := leftR_le (f := f) hrle
             rw [← h7, IntWalk.i64_in _ (by omega)] at hc24
             exact absurd rfl hc24
            case' n24 =>
             first | refine x_inc ?_ (h := by ((try simp only [byD_len, List.length_append, List.length_nil, List.length_cons, List.length_map, Int.natCast_add]); omega)) | refine x_add ?_ (h := by first | exact IntWalk.i64_in _ (by ((try simp only [byD_len, List.length_append, List.length_nil, List.length_cons, List.length_map, Int.natCast_add]); omega)) | rfl) | refine x_bin rfl rfl ?_
             refine x_rnd (k + 1) (by omega) (by (try dsimp only); omega) rfl (x_ent (by first | rfl | (simp only [Tr.get]; simp; done)) trivial) (body_next hr).symm
           case' n23 =>
            refine brF ?_
            first | refine x_inc ?_ (h := by ((try simp only [byD_len, List.length_append, List.length_nil, List.length_cons, List.length_map, Int.natCast_add]); omega)) | refine x_add ?_ (h := by first | exact IntWalk.i64_in _ (by ((try simp only [byD_len, List.length_append, List.length_nil, List.length_cons, List.length_map, Int.natCast_add]); omega)) | rfl) | refine x_bin rfl rfl ?_
            refine x_rnd (k + 1) (by omega) (by (try dsimp only); omega) rfl (x_ent (by first | rfl | (simp only [Tr.get]; simp; done)) trivial) (body_next hr).symm
    case' n6 =>
     refine brF ?_
     have hf : fmtF f := by unfold fmtF; omega
     have hle : (edgeR (edgeP f e) f (0, false)).2.1 ≤ (edgeP f e).length := edgeR_inv (Nat.zero_le _)
     first | refine x_bnd ?_ | refine x_bndI ?_
     refine x_row ?_ (by first | exact one_wide | exact byD_wide _) (h1 := by ((try simp only [byD_len, List.length_append, List.length_nil, List.length_cons, List.length_map, Int.natCast_add]); omega)) (h2 := by ((try simp only [byD_len, List.length_append, List.length_nil, List.length_cons, List.length_map, Int.natCast_add]); omega)) (hy := by first | exact byD_tl | exact rfl | rfl)
     refine x_callH T.en_13 (penNewOk_any 1000002 (by decide) (edgeP f e) f (by omega) hf) ?_ ⟨⟨(by decide), (by first | rfl | (simp only [hOf, hset, hpost, if_true, if_false, not_false_eq_true]; first | done | rfl))⟩, trivial⟩
     refine x_callH T.en_12 (treeGet_any 1000002 (by decide) (edgeP f e) f (0, false) (by omega) (Nat.zero_le _)) ?_ ⟨⟨(by decide), (by first | rfl | (simp only [hOf, hset, hpost, if_true, if_false, not_false_eq_true]; first | done | rfl))⟩, trivial⟩
     refine And.intro ⟨T.mixed, by decide +kernel⟩ ?_
     first | refine x_bnd ?_ | refine x_bndI ?_
     refine x_row ?_ (by first | exact one_wide | exact byD_wide _) (h1 := by ((try simp only [byD_len, List.length_append, List.length_nil, List.length_cons, List.length_map, Int.natCast_add]); omega)) (h2 := by ((try simp only [byD_len, List.length_append, List.length_nil, List.length_cons, List.length_map, Int.natCast_add]); omega)) (hy := by first | exact byD_tl | exact rfl | rfl)
     refine q_tostr Tryz.underlying34 Tryz.underlying5 Tryz.underlying9 (l := (edgeP f e)) ?_
     refine x_call T.en_14 (r17Bytes_any f e hf hi hB) ?_
     refine q_tostr Tryz.underlying34 Tryz.underlying5 Tryz.underlying9 (l := (edgeP f e)) ?_
     refine br (fun hg27 => ?y27) (fun hg27 => ?n27)
     case' y27 =>
      exact absurd rfl hg27
     case' n27 =>
      refine x_call T.en_10 (refEdge_any e hx0) ?_
      refine br (fun hg28 => ?y28) (fun hg28 => ?n28)
      case' y28 =>
       have hro := edge_round hf hg28
       refine x_call T.en_15 (by first | exact refSame_any e _ hx0 | exact refSame_any (edgeR r f (0, false)).1 _ edgeR_okX) ?_
       refine br (fun hg29 => ?y29) (fun hg29 => ?n29)
       case' y29 =>
        exact absurd (by rw [hro]) hg29
       case' n29 =>
        refine q_callR T.en_16 (end_any 1000002 (by decide) (edgeP f e) f (edgeR (edgeP f e) f (0, false)).2 (by omega) hle) ?_ ⟨⟨(by decide), (by first | rfl | (simp only [hOf, hset, hpost, if_true, if_false, not_false_eq_true]; first | done | rfl))⟩, trivial⟩
        refine br (fun hc30 => ?y30) (fun hc30 => ?n30)
        case' y30 =>
         exact absurd (by rw [hro]; exact end_zero hf) hc30
        case' n30 =>
         first | refine x_bnd ?_ | refine x_bndI ?_
         refine x_row ?_ (by first | exact one_wide | exact byD_wide _) (h1 := by ((try simp only [byD_len, List.length_append, List.length_nil, List.length_cons, List.length_map, Int.natCast_add]); omega)) (h2 := by ((try simp only [byD_len, List.length_append, List.length_nil, List.length_cons, List.length_map, Int.natCast_add]); omega)) (hy := by first | exact byD_tl | exact rfl | rfl)
         refine x_len ?_
         refine xloop (fb := [17, 43, 48, 49, 56, 58, 61, 65, 77, 93, 95, 105, 117]) T.ok (Nat.le_of_ble_eq_true rfl) [1, 85, 86] (fun (k : Nat) => [(87, .c (.d (.sc (.int .i64 (k : Nat)))))]) (fun k => bodyH 1000003 (fun l => (edgeR l f (0, false)).2) (hpost (hpost (hpost (hOf [(1000000, .free), (1000001, .free), (1000002, .free), (1000003, .free), (1000004, .free)]) [(1000000, .obj [.mp 1000001]), (1000001, .mapo (ents (nodesOf [exB, exA])))]) [(1000002, rdS (edgeP f e) f (0, false))]) [(1000002, rdS (edgeP f e) f (edgeR (edgeP f e) f (0, false)).2)]) f (edgeP f e) b k) (fun k => k ≤ 2) (fun k => 2 - k) 0 (Nat.zero_le _) (x_ent (by first | rfl | (simp only [Tr.get]; simp; done)) trivial) body_zero ?_
         rintro k hk
         refine br (fun hc31 => ?y31) (fun hc31 => ?n31)
         case' y31 =>
          have hk2 : k < 2 := by have h9 := hc31; simp only [List.length_cons, List.length_nil] at h9; omega
          obtain ⟨r, hr⟩ : ∃ r, (if k = 0 then (edgeP f e) else b) = r := ⟨_, rfl⟩
          have hrl : r.length ≤ 8000000 := by rw [← hr]; split <;> omega
          have hbo := edge_both (b := r) hf
          have hrle : (edgeR r f (0, false)).2.1 ≤ r.length := edgeR_inv (Nat.zero_le _)
          have hfree : bodyH 1000003 (fun l => (edgeR l f (0, false)).2) (hpost (hpost (hpost (hOf [(1000000, .free), (1000001, .free), (1000002, .free), (1000003, .free), (1000004, .free)]) [(1000000, .obj [.mp 1000001]), (1000001, .mapo (ents (nodesOf [exB, exA])))]) [(1000002, rdS (edgeP f e) f (0, false))]) [(1000002, rdS (edgeP f e) f (edgeR (edgeP f e) f (0, false)).2)]) f (edgeP f e) b k (1000003 + k) = .free := body_free (by rcases (by omega : k = 0 ∨ k = 1) with rfl | rfl <;> rfl)
          first | refine x_ix (by exact row2_at hr (by omega)) ?_ | refine x_ixI (by exact row2_at hr (by omega)) ?_
          refine x_callH T.en_13 (penNewOk_any (1000003 + k) (by unfold NAM; omega) r f hrl hf) ?_ ⟨⟨(by unfold NAM; omega), hfree⟩, trivial⟩
          refine x_callH T.en_12 (treeGet_any (1000003 + k) (by unfold NAM; omega) r f (0, false) (by omega) (Nat.zero_le _)) ?_ ⟨⟨(by unfold NAM; omega), (by first | rfl | (simp only [hOf, hset, hpost, if_true, if_false, not_false_eq_true]; first | done | rfl))⟩, trivial⟩
          refine x_call T.en_17 (r17Get_any r 0 f (by omega) (Nat.zero_le _)) ?_
          refine x_callR T.en_18 (bad_any (1000003 + k) (by unfold NAM; omega) r f (edgeR r f (0, false)).2 (by omega) hrle) ?_ ⟨⟨(by unfold NAM; omega), (by first | rfl | (simp only [hOf, hset, hpost, if_true, if_false, not_false_eq_true]; first | done | rfl))⟩, trivial⟩
          first | refine x_bin (pr_eqb Tryz.underlying4) rfl ?_ | refine x_bin rfl rfl ?_
          refine br (fun hg32 => ?y32) (fun hg32 => ?n32)
          case' y32 =>
           exact absurd hg32 (by rw [hbo.2.1]; cases (edgeO r 0 f).isSome <;> decide)
          case' n32 =>
           refine x_call T.en_15 (by first | exact refSame_any e _ hx0 | exact refSame_any (edgeR r f (0, false)).1 _ edgeR_okX) ?_
           refine br (fun hg33 => ?y33) (fun hg33 => ?n33)
           case' y33 =>
            exact absurd hbo.1 hg33
           case' n33 =>
            refine br (fun hg34 => ?y34) (fun hg34 => ?n34)
            case' y34 =>
             have hok := hg34
             refine x_callR T.en_19 (left_any (1000003 + k) (by unfold NAM; omega) r f (edgeR r f (0, false)).2 (by omega) hrle) ?_ ⟨⟨(by unfold NAM; omega), (by first | rfl | (simp only [hOf, hset, hpost, if_true, if_false, not_false_eq_true]; first | done | rfl))⟩, trivial⟩
             refine x_len ?_
             first | refine x_sub ?_ (h := by first | exact IntWalk.i64_in _ (by ((try simp only [byD_len, List.length_append, List.length_nil, List.length_cons, List.length_map, Int.natCast_add]); omega)) | rfl) | refine x_bin rfl rfl ?_
             refine br (fun hc35 => ?y35) (fun hc35 => ?n35)
             case' y35 =>
              have h7 := hbo.2.2 hok
              have h8 := leftR_le (f := f) hrle
              rw [← h7, IntWalk.i64_in _ (by omega)] at hc35
              exact absurd rfl hc35
             case' n35 =>
              first | refine x_inc ?_ (h := by ((try simp only [byD_len, List.length_append, List.length_nil, List.length_cons, List.length_map, Int.natCast_add]); omega)) | refine x_add ?_ (h := by first | exact IntWalk.i64_in _ (by ((try simp only [byD_len, List.length_append, List.length_nil, List.length_cons, List.length_map, Int.natCast_add]); omega)) | rfl) | refine x_bin rfl rfl ?_
              refine x_rnd (k + 1) (by omega) (by (try dsimp only); omega) rfl (x_ent (by first | rfl | (simp only [Tr.get]; simp; done)) trivial) (body_next hr).symm
            case' n34 =>
             refine brF ?_
             first | refine x_inc ?_ (h := by ((try simp only [byD_len, List.length_append, List.length_nil, List.length_cons, List.length_map, Int.natCast_add]); omega)) | refine x_add ?_ (h := by first | exact IntWalk.i64_in _ (by ((try simp only [byD_len, List.length_append, List.length_nil, List.length_cons, List.length_map, Int.natCast_add]); omega)) | rfl) | refine x_bin rfl rfl ?_
             refine x_rnd (k + 1) (by omega) (by (try dsimp only); omega) rfl (x_ent (by first | rfl | (simp only [Tr.get]; simp; done)) trivial) (body_next hr).symm
      case' n28 =>
       refine brF ?_
       first | refine x_bnd ?_ | refine x_bndI ?_
       refine x_row ?_ (by first | exact one_wide | exact byD_wide _) (h1 := by ((try simp only [byD_len, List.length_append, List.length_nil, List.length_cons, List.length_map, Int.natCast_add]); omega)) (h2 := by ((try simp only [byD_len, List.length_append, List.length_nil, List.length_cons, List.length_map, Int.natCast_add]); omega)) (hy := by first | exact byD_tl | exact rfl | rfl)
       refine x_len ?_
       refine xloop (fb := [17, 43, 48, 49, 56, 58, 61, 65, 77, 93, 95, 105, 117]) T.ok (Nat.le_of_ble_eq_true rfl) [1, 85, 86] (fun (k : Nat) => [(87, .c (.d (.sc (.int .i64 (k : Nat)))))]) (fun k => bodyH 1000003 (fun l => (edgeR l f (0, false)).2) (hpost (hpost (hpost (hOf [(1000000, .free), (1000001, .free), (1000002, .free), (1000003, .free), (1000004, .free)]) [(1000000, .obj [.mp 1000001]), (1000001, .mapo (ents (nodesOf [exB, exA])))]) [(1000002, rdS (edgeP f e) f (0, false))]) [(1000002, rdS (edgeP f e) f (edgeR (edgeP f e) f (0, false)).2)]) f (edgeP f e) b k) (fun k => k ≤ 2) (fun k => 2 - k) 0 (Nat.zero_le _) (x_ent (by first | rfl | (simp only [Tr.get]; simp; done)) trivial) body_zero ?_
       rintro k hk
       refine br (fun hc38 => ?y38) (fun hc38 => ?n38)
       case' y38 =>
        have hk2 : k < 2 := by have h9 := hc38; simp only [List.length_cons, List.length_nil] at h9; omega
        obtain ⟨r, hr⟩ : ∃ r, (if k = 0 then (edgeP f e) else b) = r := ⟨_, rfl⟩
        have hrl : r.length ≤ 8000000 := by rw [← hr]; split <;> omega
        have hbo := edge_both (b := r) hf
        have hrle : (edgeR r f (0, false)).2.1 ≤ r.length := edgeR_inv (Nat.zero_le _)
        have hfree : bodyH 1000003 (fun l => (edgeR l f (0, false)).2) (hpost (hpost (hpost (hOf [(1000000, .free), (1000001, .free), (1000002, .free), (1000003, .free), (1000004, .free)]) [(1000000, .obj [.mp 1000001]), (1000001, .mapo (ents (nodesOf [exB, exA])))]) [(1000002, rdS (edgeP f e) f (0, false))]) [(1000002, rdS (edgeP f e) f (edgeR (edgeP f e) f (0, false)).2)]) f (edgeP f e) b k (1000003 + k) = .free := body_free (by rcases (by omega : k = 0 ∨ k = 1) with rfl | rfl <;> rfl)
        first | refine x_ix (by exact row2_at hr (by omega)) ?_ | refine x_ixI (by exact row2_at hr (by omega)) ?_
        refine x_callH T.en_13 (penNewOk_any (1000003 + k) (by unfold NAM; omega) r f hrl hf) ?_ ⟨⟨(by unfold NAM; omega), hfree⟩, trivial⟩
        refine x_callH T.en_12 (treeGet_any (1000003 + k) (by unfold NAM; omega) r f (0, false) (by omega) (Nat.zero_le _)) ?_ ⟨⟨(by unfold NAM; omega), (by first | rfl | (simp only [hOf, hset, hpost, if_true, if_false, not_false_eq_true]; first | done | rfl))⟩, trivial⟩
        refine x_call T.en_17 (r17Get_any r 0 f (by omega) (Nat.zero_le _)) ?_
        refine x_callR T.en_18 (bad_any (1000003 + k) (by unfold NAM; omega) r f (edgeR r f (0, false)).2 (by omega) hrle) ?_ ⟨⟨(by unfold NAM; omega), (by first | rfl | (simp only [hOf, hset, hpost, if_true, if_false, not_false_eq_true]; first | done | rfl))⟩, trivial⟩
        first | refine x_bin (pr_eqb Tryz.underlying4) rfl ?_ | refine x_bin rfl rfl ?_
        refine br (fun hg39 => ?y39) (fun hg39 => ?n39)
        case' y39 =>
         exact absurd hg39 (by rw [hbo.2.1]; cases (edgeO r 0 f).isSome <;> decide)
        case' n39 =>
         refine x_call T.en_15 (by first | exact refSame_any e _ hx0 | exact refSame_any (edgeR r f (0, false)).1 _ edgeR_okX) ?_
         refine br (fun hg40 => ?y40) (fun hg40 => ?n40)
         case' y40 =>
          exact absurd hbo.1 hg40
         case' n40 =>
          refine br (fun hg41 => ?y41) (fun hg41 => ?n41)
          case' y41 =>
           have hok := hg41
           refine x_callR T.en_19 (left_any (1000003 + k) (by unfold NAM; omega) r f (edgeR r f (0, false)).2 (by omega) hrle) ?_ ⟨⟨(by unfold NAM; omega), (by first | rfl | (simp only [hOf, hset, hpost, if_true, if_false, not_false_eq_true]; first | done | rfl))⟩, trivial⟩
           refine x_len ?_
           first | refine x_sub ?_ (h := by first | exact IntWalk.i64_in _ (by ((try simp only [byD_len, List.length_append, List.length_nil, List.length_cons, List.length_map, Int.natCast_add]); omega)) | rfl) | refine x_bin rfl rfl ?_
           refine br (fun hc42 => ?y42) (fun hc42 => ?n42)
           case' y42 =>
            have h7 := hbo.2.2 hok
            have h8 := leftR_le (f := f) hrle
            rw [← h7, IntWalk.i64_in _ (by omega)] at hc42
            exact absurd rfl hc42
           case' n42 =>
            first | refine x_inc ?_ (h := by ((try simp only [byD_len, List.length_append, List.length_nil, List.length_cons, List.length_map, Int.natCast_add]); omega)) | refine x_add ?_ (h := by first | exact IntWalk.i64_in _ (by ((try simp only [byD_len, List.length_append, List.length_nil, List.length_cons, List.length_map, Int.natCast_add]); omega)) | rfl) | refine x_bin rfl rfl ?_
            refine x_rnd (k + 1) (by omega) (by (try dsimp only); omega) rfl (x_ent (by first | rfl | (simp only [Tr.get]; simp; done)) trivial) (body_next hr).symm
          case' n41 =>
           refine brF ?_
           first | refine x_inc ?_ (h := by ((try simp only [byD_len, List.length_append, List.length_nil, List.length_cons, List.length_map, Int.natCast_add]); omega)) | refine x_add ?_ (h := by first | exact IntWalk.i64_in _ (by ((try simp only [byD_len, List.length_append, List.length_nil, List.length_cons, List.length_map, Int.natCast_add]); omega)) | rfl) | refine x_bin rfl rfl ?_
           refine x_rnd (k + 1) (by omega) (by (try dsimp only); omega) rfl (x_ent (by first | rfl | (simp only [Tr.get]; simp; done)) trivial) (body_next hr).symm
 all_goals (refine ⟨?_, trivial⟩; simp only [fitsL, fits, C.asD, and_true] <;> (first | rfl | (rw [hg.1]; rfl)))
end Go.Vm
end
section
namespace Go.Vm
open Go.RowKit
set_option linter.unusedVariables false
set_option linter.unusedSimpArgs false

def allFrozen : Roles := fun _ => .frozen
theorem okFrozen (b off : Nat) : okAt allFrozen b off := trivial

section
variable {P : Program} {w : World}

/-- What reads as cells of a type is a value's of a kind. -/
def Cells (P : Program) (w : World) (t : TypeId) {α : Type} (enc : α → D) (ok : α → Prop) : Prop := ∀ es, Reads P w t es → ∃ x : α, Reps allFrozen w es (enc x).cells ∧ ok x

theorem cells_at : ∀ {ess : List (List Value)} {b off sz : Nat}, (∀ (i : Nat) (es : List Value), ess[i]? = some es → es.length = sz ∧ ∀ (j : Nat) (u : Value), es[j]? = some u → w.cell? ⟨b, off + i * sz + j, none⟩ = some u) →
    ess.flatten.length = ess.length * sz ∧ ∀ (j : Nat) (u : Value), ess.flatten[j]? = some u → w.cell? ⟨b, off + j, none⟩ = some u
  | [], b, off, sz, _ => ⟨by simp, by simp⟩
  | es :: ess, b, off, sz, h => by
    obtain ⟨h0, h1⟩ := h 0 es rfl
    obtain ⟨k0, k1⟩ := cells_at (ess := ess) (b := b) (off := off + sz) (sz := sz) (fun i es' hes => by
      obtain ⟨g0, g1⟩ := h (i + 1) es' (by simpa using hes)
      refine ⟨g0, fun j u hu => ?_⟩
      have := g1 j u hu
      rw [Nat.add_mul, Nat.one_mul] at this
      rw [show off + sz + i * sz + j = off + (i * sz + sz) + j by omega]; exact this)
    refine ⟨by rw [List.flatten_cons, List.length_append, k0, h0, List.length_cons, Nat.add_mul, Nat.one_mul, Nat.add_comm], fun j u hu => ?_⟩
    rw [List.flatten_cons] at hu
    by_cases hj : j < es.length
    · rw [List.getElem?_append_left hj] at hu
      have := h1 j u hu
      simpa using this
    · rw [List.getElem?_append_right (by omega)] at hu
      have := k1 (j - es.length) u hu
      rw [h0] at this
      rw [show off + j = off + sz + (j - sz) by omega]; exact this

theorem reps_flat {α : Type} {enc : α → D} : ∀ {ps : List (List Value × α)}, (∀ p ∈ ps, Reps allFrozen w p.1 (enc p.2).cells) → Reps allFrozen w (ps.map (·.1)).flatten (flat ((ps.map (·.2)).map enc))
  | [], _ => by simpa [flat] using Reps.nil
  | p :: ps, h => by
    have h1 := h p (List.mem_cons_self ..)
    have h2 := reps_flat (ps := ps) fun q hq => h q (List.mem_cons_of_mem _ hq)
    simp only [List.map_cons, List.flatten_cons, flat, List.flatMap_cons] at h2 ⊢
    exact h1.append h2

/-- A slice that is handed in. -/
theorem row_of {t e : TypeId} {sz : Nat} {α : Type} {enc : α → D} {ok : α → Prop} (ht : P.underlying t = some (.slice e)) (hsz : P.cellsOf e = sz) (h0 : 0 < sz) (hw : ∀ x, (enc x).cells.length = sz) (hel : Cells P w e enc ok) {a : Option Addr} {l c : Nat} (h : Reads P w t [.slice a l c]) :
    ∃ xs : List α, Rep allFrozen w (.slice a l c) (.row (xs.map enc)) ∧ ∀ x ∈ xs, ok x := by
  rcases h.slice ht with h | ⟨ad, len, cap, h, h1, h2, h3⟩
  · injection h with h; injection h with h4 h5 h6
    subst h4 h5 h6
    exact ⟨[], .nil (by simp [maxLen]), by simp⟩
  · injection h with h; injection h with h4 h5 h6
    subst h4 h5 h6
    rw [hsz] at h3
    obtain ⟨ps, hl, hp⟩ := choose_list (Q := fun i (p : List Value × α) => p.1.length = sz ∧ (∀ j (hj : j < p.1.length), w.cell? ((ad.add (i * sz)).add j) = some p.1[j]) ∧ Reps allFrozen w p.1 (enc p.2).cells ∧ ok p.2) l (fun i hi => by
      obtain ⟨es, q1, q2, q3⟩ := h3 i hi
      obtain ⟨x, hx, hok⟩ := hel es q3
      exact ⟨(es, x), q1, q2, hx, hok⟩)
    by_cases hz : l = 0
    · subst hz
      obtain rfl : ps = [] := List.length_eq_zero_iff.1 hl
      exact ⟨[], .nil h2, by simp⟩
    · have hlt : 0 < ps.length := by omega
      have had : ad = ⟨ad.block, ad.off, none⟩ := by
        obtain ⟨q1, q2, _⟩ := hp 0 hlt
        have := q2 0 (by omega)
        have e0 : (ad.add (0 * sz)).add 0 = ad := by simp [Addr.add]
        rw [e0] at this
        exact addr_of_cell this
      have hcells := cells_at (w := w) (ess := ps.map (·.1)) (b := ad.block) (off := ad.off) (sz := sz) (fun i es hes => by
        rw [List.getElem?_map] at hes
        cases hpi : ps[i]? with
        | none => rw [hpi] at hes; cases hes
        | some p =>
          rw [hpi] at hes
          simp only [Option.map_some, Option.some.injEq] at hes
          subst hes
          obtain ⟨hi, rfl⟩ := List.getElem?_eq_some_iff.1 hpi
          obtain ⟨q1, q2, _⟩ := hp i hi
          refine ⟨q1, fun j u hu => ?_⟩
          obtain ⟨hj, rfl⟩ := List.getElem?_eq_some_iff.1 hu
          have := q2 j hj
          rw [had, add_spot, add_spot] at this
          exact this)
      have hmem : ∀ p ∈ ps, Reps allFrozen w p.1 (enc p.2).cells ∧ ok p.2 := by
        intro p hpm
        obtain ⟨i, hi, rfl⟩ := List.getElem_of_mem hpm
        exact (hp i hi).2.2
      have hr := reps_flat (enc := enc) (fun p hpm => (hmem p hpm).1)
      refine ⟨ps.map (·.2), ?_, fun x hx => ?_⟩
      · have hlen : ((ps.map (·.2)).map enc).length = l := by simp [hl]
        rw [had]
        have := Rep.row (ro := allFrozen) (w := w) (b := ad.block) (off := ad.off) (cap := c) (sz := sz) (xs := (ps.map (·.2)).map enc) (ps.map (·.1)).flatten h0 (by rw [hlen]; exact h1) h2 (by rw [hcells.1, hlen]; simp [hl]) (fun x hx => by obtain ⟨y, _, rfl⟩ := List.mem_map.1 hx; exact hw y) hr.2.1 (fun j u hu => ⟨hcells.2 j u hu, okFrozen _ _⟩) hr.2.2
        rw [hlen] at this
        exact this
      · obtain ⟨p, hpm, rfl⟩ := List.mem_map.1 hx
        exact (hmem p hpm).2

/-- Behind a function that answers true. -/
theorem law_true {f : FuncId} {args : List D} {vs : Array Value} (hc : Contract P f args [.d (.sc (.bool true))]) (hl : vs.size = args.length) (hr : ∀ (i : Nat) (v : Value) (d : D), vs.toList[i]? = some v → args[i]? = some d → Rep allFrozen w v d) :
    Calls P f vs w fun e w' => e = .returned (.bool true) ∧ Below w.heap.size w w' := by
  refine (hc allFrozen w vs 0 (fun _ _ => rfl) (fun _ _ _ _ _ h => by cases h) hl hr).mono ?_
  rintro e w' ⟨v, ro', rfl, hg, hs⟩
  have : v = .bool true := (rep_sc (show Rep ro' w' v (.sc (.bool true)) from hs)).1
  exact ⟨by rw [this], hg.below⟩
/-- The same, of a function that makes things with names. -/
theorem law_trueH {f : FuncId} {args : List D} {vs : Array Value} {pre post : List (Nat × S)} (hc : ContractH P f args pre [.d (.sc (.bool true))] post) (hp : ∀ p ∈ pre, p.2 = .free) (hl : vs.size = args.length) (hr : ∀ (i : Nat) (v : Value) (d : D), vs.toList[i]? = some v → args[i]? = some d → Rep allFrozen w v d) :
    Calls P f vs w fun e w' => e = .returned (.bool true) ∧ Below w.heap.size w w' := by
  refine (hc allFrozen w vs 0 (fun _ _ => rfl) (fun _ _ _ _ _ h => by cases h) hl hr (fun p hm => by rw [hp p hm]; intro b k h; cases h)).mono ?_
  rintro e w' ⟨v, ro', rfl, hg, hs, _⟩
  have : v = .bool true := (rep_sc (show Rep ro' w' v (.sc (.bool true)) from hs)).1
  exact ⟨by rw [this], hg.os, hg.tape, hg.output, hg.size, fun k hk => hg.block k hk fun id m h => by cases h⟩
end
end Go.Vm
end
section
namespace Go.Vm
open Go.RowKit Go.Proofs
set_option linter.unusedVariables false
set_option linter.unusedSimpArgs false
set_option maxRecDepth 10000

open Go.RowKit

section
variable {P : Program} {w : World}
theorem reps_cut {ro : Roles} {es : List Value} {o k : Nat} {c d : List D} (h1 : Reps ro w ((es.drop o).take k) c) (h2 : Reps ro w (es.drop (o + k)) d) : Reps ro w (es.drop o) (c ++ d) := by
  have h := h1.append h2
  rwa [← List.drop_drop, List.take_append_drop] at h
theorem reps_end {ro : Roles} {es : List Value} {o : Nat} (h : es.length = o) : Reps ro w (es.drop o) [] := by
  rw [List.drop_eq_nil_of_le (by omega)]; exact Reps.nil
theorem cells_int {t : TypeId} {cs : List Value} (ht : P.underlying t = some (.int .i64)) (h : Reads P w t cs) : ∃ n : Int, Reps allFrozen w cs [.sc (.int .i64 n)] := by
  obtain ⟨n, rfl, _⟩ := h.int ht
  exact ⟨n, rfl, by simp [Value.oneCell'], fun j u c hu hc => by cases j with | zero => simp at hu hc; subst hu hc; exact .sc rfl | succ j => simp at hu⟩
theorem cells_str {t : TypeId} {cs : List Value} (ht : P.underlying t = some .string) (h : Reads P w t cs) : ∃ s : ByteArray, Reps allFrozen w cs [.sc (.string s)] := by
  obtain ⟨s, rfl, _⟩ := h.string ht
  exact ⟨s, rfl, by simp [Value.oneCell'], fun j u c hu hc => by cases j with | zero => simp at hu hc; subst hu hc; exact .sc rfl | succ j => simp at hu⟩
theorem cells_row {t e : TypeId} {sz : Nat} {α : Type} {enc : α → D} {cs : List Value} (ht : P.underlying t = some (.slice e)) (hsz : P.cellsOf e = sz) (h0 : 0 < sz) (hw : ∀ x, (enc x).cells.length = sz) (hel : Cells P w e enc (fun _ => True)) (h : Reads P w t cs) : ∃ xs : List α, Reps allFrozen w cs [.row (xs.map enc)] := by
  have hc : ∃ a l c, cs = [.slice a l c] := by
    rcases h.slice ht with rfl | ⟨a, l, c, rfl, _⟩
    · exact ⟨_, _, _, rfl⟩
    · exact ⟨_, _, _, rfl⟩
  obtain ⟨a, l, c, rfl⟩ := hc
  obtain ⟨xs, hx, _⟩ := row_of ht hsz h0 hw hel h
  exact ⟨xs, rfl, by simp [Value.oneCell'], fun j u c hu hc => by cases j with | zero => simp at hu hc; subst hu hc; exact hx | succ j => simp at hu⟩
theorem rep_agg {ro : Roles} {s : Array Value} {cs : List D} (h : Reps ro w s.toList cs) : Rep ro w (.agg s) (.agg cs) := .agg (by simpa using h.1) h.2.1 h.2.2
end
theorem str_cells (w : World) : Cells Tryz.prog w 9 strD (fun _ => True) := by
  intro es h
  obtain ⟨s, hs⟩ := cells_str Tryz.underlying9 h
  exact ⟨s, hs, trivial⟩

theorem ref_cells (w : World) : Cells Tryz.prog w 25 rD (fun _ => True) := by
  intro es h
  obtain ⟨hl, hf⟩ := h.struct Tryz.underlying25
  rw [show Tryz.prog.cellsOf 25 = 3 from by kernel_rfl] at hl
  have h0 := hf _ (List.mem_cons_self ..)
  simp only [show Tryz.prog.cellsOf 3 = 1 from by kernel_rfl] at h0
  obtain ⟨v0, r0⟩ := cells_int Tryz.underlying3 h0
  have h1 := hf _ (List.mem_cons_of_mem _ (List.mem_cons_self ..))
  simp only [show Tryz.prog.cellsOf 9 = 1 from by kernel_rfl] at h1
  obtain ⟨v1, r1⟩ := cells_str Tryz.underlying9 h1
  have h2 := hf _ (List.mem_cons_of_mem _ (List.mem_cons_of_mem _ (List.mem_cons_self ..)))
  simp only [show Tryz.prog.cellsOf 9 = 1 from by kernel_rfl] at h2
  obtain ⟨v2, r2⟩ := cells_str Tryz.underlying9 h2
  exact ⟨⟨v0, v1, v2⟩, reps_cut (o := 0) (k := 1) r0 (reps_cut (o := 1) (k := 1) r1 (reps_cut (o := 2) (k := 1) r2 (reps_end hl))), trivial⟩
theorem pair_cells (w : World) : Cells Tryz.prog w 119 pairD (fun _ => True) := by
  intro es h
  obtain ⟨hl, hf⟩ := h.struct Tryz.underlying119
  rw [show Tryz.prog.cellsOf 119 = 2 from by kernel_rfl] at hl
  have h0 := hf _ (List.mem_cons_self ..)
  simp only [show Tryz.prog.cellsOf 9 = 1 from by kernel_rfl] at h0
  obtain ⟨v0, r0⟩ := cells_str Tryz.underlying9 h0
  have h1 := hf _ (List.mem_cons_of_mem _ (List.mem_cons_self ..))
  simp only [show Tryz.prog.cellsOf 9 = 1 from by kernel_rfl] at h1
  obtain ⟨v1, r1⟩ := cells_str Tryz.underlying9 h1
  exact ⟨(v0, v1), reps_cut (o := 0) (k := 1) r0 (reps_cut (o := 1) (k := 1) r1 (reps_end hl)), trivial⟩
theorem field_cells (w : World) : Cells Tryz.prog w 28 fD (fun _ => True) := by
  intro es h
  obtain ⟨hl, hf⟩ := h.struct Tryz.underlying28
  rw [show Tryz.prog.cellsOf 28 = 7 from by kernel_rfl] at hl
  have h0 := hf _ (List.mem_cons_self ..)
  simp only [show Tryz.prog.cellsOf 25 = 3 from by kernel_rfl] at h0
  obtain ⟨v0, r0, _⟩ := ref_cells w _ h0
  have h1 := hf _ (List.mem_cons_of_mem _ (List.mem_cons_self ..))
  simp only [show Tryz.prog.cellsOf 3 = 1 from by kernel_rfl] at h1
  obtain ⟨v1, r1⟩ := cells_int Tryz.underlying3 h1
  have h2 := hf _ (List.mem_cons_of_mem _ (List.mem_cons_of_mem _ (List.mem_cons_self ..)))
  simp only [show Tryz.prog.cellsOf 9 = 1 from by kernel_rfl] at h2
  obtain ⟨v2, r2⟩ := cells_str Tryz.underlying9 h2
  have h3 := hf _ (List.mem_cons_of_mem _ (List.mem_cons_of_mem _ (List.mem_cons_of_mem _ (List.mem_cons_self ..))))
  simp only [show Tryz.prog.cellsOf 26 = 1 from by kernel_rfl] at h3
  obtain ⟨v3, r3⟩ := cells_row Tryz.underlying26 (show Tryz.prog.cellsOf 9 = 1 from by kernel_rfl) (by omega) (fun _ => rfl) (str_cells w) h3
  have h4 := hf _ (List.mem_cons_of_mem _ (List.mem_cons_of_mem _ (List.mem_cons_of_mem _ (List.mem_cons_of_mem _ (List.mem_cons_self ..)))))
  simp only [show Tryz.prog.cellsOf 2 = 1 from by kernel_rfl] at h4
  obtain ⟨v4, r4⟩ := cells_int Tryz.underlying2 h4
  exact ⟨⟨v0, v1, v2, v3, v4⟩, reps_cut (o := 0) (k := 3) r0 (reps_cut (o := 3) (k := 1) r1 (reps_cut (o := 4) (k := 1) r2 (reps_cut (o := 5) (k := 1) r3 (reps_cut (o := 6) (k := 1) r4 (reps_end hl))))), trivial⟩
theorem lens_cells (w : World) : Cells Tryz.prog w 31 lD (fun _ => True) := by
  intro es h
  obtain ⟨hl, hf⟩ := h.struct Tryz.underlying31
  rw [show Tryz.prog.cellsOf 31 = 16 from by kernel_rfl] at hl
  have h0 := hf _ (List.mem_cons_self ..)
  simp only [show Tryz.prog.cellsOf 3 = 1 from by kernel_rfl] at h0
  obtain ⟨v0, r0⟩ := cells_int Tryz.underlying3 h0
  have h1 := hf _ (List.mem_cons_of_mem _ (List.mem_cons_self ..))
  simp only [show Tryz.prog.cellsOf 25 = 3 from by kernel_rfl] at h1
  obtain ⟨v1, r1, _⟩ := ref_cells w _ h1
  have h2 := hf _ (List.mem_cons_of_mem _ (List.mem_cons_of_mem _ (List.mem_cons_self ..)))
  simp only [show Tryz.prog.cellsOf 9 = 1 from by kernel_rfl] at h2
  obtain ⟨v2, r2⟩ := cells_str Tryz.underlying9 h2
  have h3 := hf _ (List.mem_cons_of_mem _ (List.mem_cons_of_mem _ (List.mem_cons_of_mem _ (List.mem_cons_self ..))))
  simp only [show Tryz.prog.cellsOf 9 = 1 from by kernel_rfl] at h3
  obtain ⟨v3, r3⟩ := cells_str Tryz.underlying9 h3
  have h4 := hf _ (List.mem_cons_of_mem _ (List.mem_cons_of_mem _ (List.mem_cons_of_mem _ (List.mem_cons_of_mem _ (List.mem_cons_self ..)))))
  simp only [show Tryz.prog.cellsOf 2 = 1 from by kernel_rfl] at h4
  obtain ⟨v4, r4⟩ := cells_int Tryz.underlying2 h4
  have h5 := hf _ (List.mem_cons_of_mem _ (List.mem_cons_of_mem _ (List.mem_cons_of_mem _ (List.mem_cons_of_mem _ (List.mem_cons_of_mem _ (List.mem_cons_self ..))))))
  simp only [show Tryz.prog.cellsOf 28 = 7 from by kernel_rfl] at h5
  obtain ⟨v5, r5, _⟩ := field_cells w _ h5
  have h6 := hf _ (List.mem_cons_of_mem _ (List.mem_cons_of_mem _ (List.mem_cons_of_mem _ (List.mem_cons_of_mem _ (List.mem_cons_of_mem _ (List.mem_cons_of_mem _ (List.mem_cons_self ..)))))))
  simp only [show Tryz.prog.cellsOf 29 = 1 from by kernel_rfl] at h6
  obtain ⟨v6, r6⟩ := cells_row Tryz.underlying29 (show Tryz.prog.cellsOf 119 = 2 from by kernel_rfl) (by omega) (fun _ => rfl) (pair_cells w) h6
  have h7 := hf _ (List.mem_cons_of_mem _ (List.mem_cons_of_mem _ (List.mem_cons_of_mem _ (List.mem_cons_of_mem _ (List.mem_cons_of_mem _ (List.mem_cons_of_mem _ (List.mem_cons_of_mem _ (List.mem_cons_self ..))))))))
  simp only [show Tryz.prog.cellsOf 29 = 1 from by kernel_rfl] at h7
  obtain ⟨v7, r7⟩ := cells_row Tryz.underlying29 (show Tryz.prog.cellsOf 119 = 2 from by kernel_rfl) (by omega) (fun _ => rfl) (pair_cells w) h7
  exact ⟨⟨v0, v1, v2, v3, v4, v5, v6, v7⟩, reps_cut (o := 0) (k := 1) r0 (reps_cut (o := 1) (k := 3) r1 (reps_cut (o := 4) (k := 1) r2 (reps_cut (o := 5) (k := 1) r3 (reps_cut (o := 6) (k := 1) r4 (reps_cut (o := 7) (k := 7) r5 (reps_cut (o := 14) (k := 1) r6 (reps_cut (o := 15) (k := 1) r7 (reps_end hl)))))))), trivial⟩
theorem tag_cells (w : World) : Cells Tryz.prog w 23 tD (fun _ => True) := by
  intro es h
  obtain ⟨hl, hf⟩ := h.struct Tryz.underlying23
  rw [show Tryz.prog.cellsOf 23 = 2 from by kernel_rfl] at hl
  have h0 := hf _ (List.mem_cons_self ..)
  simp only [show Tryz.prog.cellsOf 3 = 1 from by kernel_rfl] at h0
  obtain ⟨v0, r0⟩ := cells_int Tryz.underlying3 h0
  have h1 := hf _ (List.mem_cons_of_mem _ (List.mem_cons_self ..))
  simp only [show Tryz.prog.cellsOf 3 = 1 from by kernel_rfl] at h1
  obtain ⟨v1, r1⟩ := cells_int Tryz.underlying3 h1
  exact ⟨⟨v0, v1⟩, reps_cut (o := 0) (k := 1) r0 (reps_cut (o := 1) (k := 1) r1 (reps_end hl)), trivial⟩
theorem edge_cells (w : World) : Cells Tryz.prog w 33 eD (fun _ => True) := by
  intro es h
  obtain ⟨hl, hf⟩ := h.struct Tryz.underlying33
  rw [show Tryz.prog.cellsOf 33 = 20 from by kernel_rfl] at hl
  have h0 := hf _ (List.mem_cons_self ..)
  simp only [show Tryz.prog.cellsOf 23 = 2 from by kernel_rfl] at h0
  obtain ⟨v0, r0, _⟩ := tag_cells w _ h0
  have h1 := hf _ (List.mem_cons_of_mem _ (List.mem_cons_self ..))
  simp only [show Tryz.prog.cellsOf 23 = 2 from by kernel_rfl] at h1
  obtain ⟨v1, r1, _⟩ := tag_cells w _ h1
  have h2 := hf _ (List.mem_cons_of_mem _ (List.mem_cons_of_mem _ (List.mem_cons_self ..)))
  simp only [show Tryz.prog.cellsOf 31 = 16 from by kernel_rfl] at h2
  obtain ⟨v2, r2, _⟩ := lens_cells w _ h2
  exact ⟨⟨v0, v1, v2⟩, reps_cut (o := 0) (k := 2) r0 (reps_cut (o := 2) (k := 2) r1 (reps_cut (o := 4) (k := 16) r2 (reps_end hl))), trivial⟩

end Go.Vm
end
section
namespace Go.Vm
open Go.RowKit Go.Proofs
set_option linter.unusedVariables false
set_option linter.unusedSimpArgs false
set_option maxRecDepth 10000

open Go.RowKit

section
variable {P : Program} {w : World}
theorem cells_intI {t : TypeId} {cs : List Value} (ht : P.underlying t = some (.int .i64)) (h : Reads P w t cs) : ∃ n : Int, Reps allFrozen w cs [.sc (.int .i64 n)] ∧ inI64 n := by
  obtain ⟨n, rfl, hw⟩ := h.int ht
  refine ⟨n, ⟨rfl, by simp [Value.oneCell'], fun j u c hu hc => by cases j with | zero => simp at hu hc; subst hu hc; exact .sc rfl | succ j => simp at hu⟩, ?_⟩
  simp [Lit.wf, IntKind.min, IntKind.max, IntKind.signed, IntKind.bits] at hw
  exact ⟨by omega, by omega⟩
end
theorem u8_cells (w : World) : Cells Tryz.prog w 5 (fun b : UInt8 => .sc (.int .u8 b.toNat)) (fun _ => True) := by
  intro es h
  obtain ⟨n, rfl, hw⟩ := h.int Tryz.underlying5
  simp [Lit.wf, IntKind.min, IntKind.max, IntKind.signed, IntKind.bits] at hw
  have e : (((UInt8.ofNat n.toNat).toNat : Nat) : Int) = n := by rw [UInt8.toNat_ofNat']; omega
  refine ⟨UInt8.ofNat n.toNat, ?_, trivial⟩
  show Reps allFrozen w _ [.sc (.int .u8 (((UInt8.ofNat n.toNat).toNat : Nat) : Int))]
  rw [e]
  exact ⟨rfl, by simp [Value.oneCell'], fun j u c hu hc => by cases j with | zero => simp at hu hc; subst hu hc; exact .sc rfl | succ j => simp at hu⟩

theorem ref_cellsI (w : World) : Cells Tryz.prog w 25 rD okIR := by
  intro es h
  obtain ⟨hl, hf⟩ := h.struct Tryz.underlying25
  rw [show Tryz.prog.cellsOf 25 = 3 from by kernel_rfl] at hl
  have h0 := hf _ (List.mem_cons_self ..)
  simp only [show Tryz.prog.cellsOf 3 = 1 from by kernel_rfl] at h0
  obtain ⟨v0, r0, o0⟩ := cells_intI Tryz.underlying3 h0
  have h1 := hf _ (List.mem_cons_of_mem _ (List.mem_cons_self ..))
  simp only [show Tryz.prog.cellsOf 9 = 1 from by kernel_rfl] at h1
  obtain ⟨v1, r1⟩ := cells_str Tryz.underlying9 h1
  have h2 := hf _ (List.mem_cons_of_mem _ (List.mem_cons_of_mem _ (List.mem_cons_self ..)))
  simp only [show Tryz.prog.cellsOf 9 = 1 from by kernel_rfl] at h2
  obtain ⟨v2, r2⟩ := cells_str Tryz.underlying9 h2
  exact ⟨⟨v0, v1, v2⟩, reps_cut (o := 0) (k := 1) r0 (reps_cut (o := 1) (k := 1) r1 (reps_cut (o := 2) (k := 1) r2 (reps_end hl))), o0⟩
theorem field_cellsI (w : World) : Cells Tryz.prog w 28 fD okIF := by
  intro es h
  obtain ⟨hl, hf⟩ := h.struct Tryz.underlying28
  rw [show Tryz.prog.cellsOf 28 = 7 from by kernel_rfl] at hl
  have h0 := hf _ (List.mem_cons_self ..)
  simp only [show Tryz.prog.cellsOf 25 = 3 from by kernel_rfl] at h0
  obtain ⟨v0, r0, o0⟩ := ref_cellsI w _ h0
  have h1 := hf _ (List.mem_cons_of_mem _ (List.mem_cons_self ..))
  simp only [show Tryz.prog.cellsOf 3 = 1 from by kernel_rfl] at h1
  obtain ⟨v1, r1, o1⟩ := cells_intI Tryz.underlying3 h1
  have h2 := hf _ (List.mem_cons_of_mem _ (List.mem_cons_of_mem _ (List.mem_cons_self ..)))
  simp only [show Tryz.prog.cellsOf 9 = 1 from by kernel_rfl] at h2
  obtain ⟨v2, r2⟩ := cells_str Tryz.underlying9 h2
  have h3 := hf _ (List.mem_cons_of_mem _ (List.mem_cons_of_mem _ (List.mem_cons_of_mem _ (List.mem_cons_self ..))))
  simp only [show Tryz.prog.cellsOf 26 = 1 from by kernel_rfl] at h3
  obtain ⟨v3, r3⟩ := cells_row Tryz.underlying26 (show Tryz.prog.cellsOf 9 = 1 from by kernel_rfl) (by omega) (fun _ => rfl) (str_cells w) h3
  have h4 := hf _ (List.mem_cons_of_mem _ (List.mem_cons_of_mem _ (List.mem_cons_of_mem _ (List.mem_cons_of_mem _ (List.mem_cons_self ..)))))
  simp only [show Tryz.prog.cellsOf 2 = 1 from by kernel_rfl] at h4
  obtain ⟨v4, r4, o4⟩ := cells_intI Tryz.underlying2 h4
  exact ⟨⟨v0, v1, v2, v3, v4⟩, reps_cut (o := 0) (k := 3) r0 (reps_cut (o := 3) (k := 1) r1 (reps_cut (o := 4) (k := 1) r2 (reps_cut (o := 5) (k := 1) r3 (reps_cut (o := 6) (k := 1) r4 (reps_end hl))))), ⟨o0, o1, o4⟩⟩
theorem lens_cellsI (w : World) : Cells Tryz.prog w 31 lD okIL := by
  intro es h
  obtain ⟨hl, hf⟩ := h.struct Tryz.underlying31
  rw [show Tryz.prog.cellsOf 31 = 16 from by kernel_rfl] at hl
  have h0 := hf _ (List.mem_cons_self ..)
  simp only [show Tryz.prog.cellsOf 3 = 1 from by kernel_rfl] at h0
  obtain ⟨v0, r0, o0⟩ := cells_intI Tryz.underlying3 h0
  have h1 := hf _ (List.mem_cons_of_mem _ (List.mem_cons_self ..))
  simp only [show Tryz.prog.cellsOf 25 = 3 from by kernel_rfl] at h1
  obtain ⟨v1, r1, o1⟩ := ref_cellsI w _ h1
  have h2 := hf _ (List.mem_cons_of_mem _ (List.mem_cons_of_mem _ (List.mem_cons_self ..)))
  simp only [show Tryz.prog.cellsOf 9 = 1 from by kernel_rfl] at h2
  obtain ⟨v2, r2⟩ := cells_str Tryz.underlying9 h2
  have h3 := hf _ (List.mem_cons_of_mem _ (List.mem_cons_of_mem _ (List.mem_cons_of_mem _ (List.mem_cons_self ..))))
  simp only [show Tryz.prog.cellsOf 9 = 1 from by kernel_rfl] at h3
  obtain ⟨v3, r3⟩ := cells_str Tryz.underlying9 h3
  have h4 := hf _ (List.mem_cons_of_mem _ (List.mem_cons_of_mem _ (List.mem_cons_of_mem _ (List.mem_cons_of_mem _ (List.mem_cons_self ..)))))
  simp only [show Tryz.prog.cellsOf 2 = 1 from by kernel_rfl] at h4
  obtain ⟨v4, r4, o4⟩ := cells_intI Tryz.underlying2 h4
  have h5 := hf _ (List.mem_cons_of_mem _ (List.mem_cons_of_mem _ (List.mem_cons_of_mem _ (List.mem_cons_of_mem _ (List.mem_cons_of_mem _ (List.mem_cons_self ..))))))
  simp only [show Tryz.prog.cellsOf 28 = 7 from by kernel_rfl] at h5
  obtain ⟨v5, r5, o5⟩ := field_cellsI w _ h5
  have h6 := hf _ (List.mem_cons_of_mem _ (List.mem_cons_of_mem _ (List.mem_cons_of_mem _ (List.mem_cons_of_mem _ (List.mem_cons_of_mem _ (List.mem_cons_of_mem _ (List.mem_cons_self ..)))))))
  simp only [show Tryz.prog.cellsOf 29 = 1 from by kernel_rfl] at h6
  obtain ⟨v6, r6⟩ := cells_row Tryz.underlying29 (show Tryz.prog.cellsOf 119 = 2 from by kernel_rfl) (by omega) (fun _ => rfl) (pair_cells w) h6
  have h7 := hf _ (List.mem_cons_of_mem _ (List.mem_cons_of_mem _ (List.mem_cons_of_mem _ (List.mem_cons_of_mem _ (List.mem_cons_of_mem _ (List.mem_cons_of_mem _ (List.mem_cons_of_mem _ (List.mem_cons_self ..))))))))
  simp only [show Tryz.prog.cellsOf 29 = 1 from by kernel_rfl] at h7
  obtain ⟨v7, r7⟩ := cells_row Tryz.underlying29 (show Tryz.prog.cellsOf 119 = 2 from by kernel_rfl) (by omega) (fun _ => rfl) (pair_cells w) h7
  exact ⟨⟨v0, v1, v2, v3, v4, v5, v6, v7⟩, reps_cut (o := 0) (k := 1) r0 (reps_cut (o := 1) (k := 3) r1 (reps_cut (o := 4) (k := 1) r2 (reps_cut (o := 5) (k := 1) r3 (reps_cut (o := 6) (k := 1) r4 (reps_cut (o := 7) (k := 7) r5 (reps_cut (o := 14) (k := 1) r6 (reps_cut (o := 15) (k := 1) r7 (reps_end hl)))))))), ⟨o0, o1, o4, o5⟩⟩
theorem tag_cellsI (w : World) : Cells Tryz.prog w 23 tD okIT := by
  intro es h
  obtain ⟨hl, hf⟩ := h.struct Tryz.underlying23
  rw [show Tryz.prog.cellsOf 23 = 2 from by kernel_rfl] at hl
  have h0 := hf _ (List.mem_cons_self ..)
  simp only [show Tryz.prog.cellsOf 3 = 1 from by kernel_rfl] at h0
  obtain ⟨v0, r0, o0⟩ := cells_intI Tryz.underlying3 h0
  have h1 := hf _ (List.mem_cons_of_mem _ (List.mem_cons_self ..))
  simp only [show Tryz.prog.cellsOf 3 = 1 from by kernel_rfl] at h1
  obtain ⟨v1, r1, o1⟩ := cells_intI Tryz.underlying3 h1
  exact ⟨⟨v0, v1⟩, reps_cut (o := 0) (k := 1) r0 (reps_cut (o := 1) (k := 1) r1 (reps_end hl)), ⟨o0, o1⟩⟩
theorem edge_cellsI (w : World) : Cells Tryz.prog w 33 eD okIE := by
  intro es h
  obtain ⟨hl, hf⟩ := h.struct Tryz.underlying33
  rw [show Tryz.prog.cellsOf 33 = 20 from by kernel_rfl] at hl
  have h0 := hf _ (List.mem_cons_self ..)
  simp only [show Tryz.prog.cellsOf 23 = 2 from by kernel_rfl] at h0
  obtain ⟨v0, r0, o0⟩ := tag_cellsI w _ h0
  have h1 := hf _ (List.mem_cons_of_mem _ (List.mem_cons_self ..))
  simp only [show Tryz.prog.cellsOf 23 = 2 from by kernel_rfl] at h1
  obtain ⟨v1, r1, o1⟩ := tag_cellsI w _ h1
  have h2 := hf _ (List.mem_cons_of_mem _ (List.mem_cons_of_mem _ (List.mem_cons_self ..)))
  simp only [show Tryz.prog.cellsOf 31 = 16 from by kernel_rfl] at h2
  obtain ⟨v2, r2, o2⟩ := lens_cellsI w _ h2
  exact ⟨⟨v0, v1, v2⟩, reps_cut (o := 0) (k := 2) r0 (reps_cut (o := 2) (k := 2) r1 (reps_cut (o := 4) (k := 16) r2 (reps_end hl))), ⟨o0, o1, o2⟩⟩

end Go.Vm
end
section
namespace Go.Vm
open Go.RowKit Go.Proofs
set_option linter.unusedVariables false
set_option linter.unusedSimpArgs false
set_option maxRecDepth 10000

end Go.Vm
namespace Go.Proofs.YtkgkljphjlikoaaGreat
open Go.RowKit Go.Vm
theorem treeBytes_walk (s0 : Array Value) (a1 : Int) (a2 : Option Addr) (l2 c2 : Nat) (w : World) (r0 : Reads Tryz.prog w 33 s0.toList) (w1 : (Lit.int .i64 a1).wf = true) (r2 : Reads Tryz.prog w 34 [.slice a2 l2 c2]) :
    Calls Tryz.prog 3 #[.agg s0, .int .i64 a1, .slice a2 l2 c2] w fun e w' => e = .returned (.bool true) ∧ Below w.heap.size w w' := by
  obtain ⟨x0, hx0, o0⟩ := edge_cellsI w _ r0
  have hx0 := rep_agg hx0
  obtain ⟨x2, hx2, _⟩ := row_of Tryz.underlying34 (show Tryz.prog.cellsOf 5 = 1 from by kernel_rfl) (by omega) (fun _ => rfl) (u8_cells w) r2
  refine law_trueH (treeBytes_any x0 a1 x2 o0) (by simp) rfl ?_
  intro i v d hv hd
  match i, hv, hd with
  | 0, hv, hd => simp at hv hd; subst hv hd; exact hx0
  | 1, hv, hd => simp at hv hd; subst hv hd; exact Rep.sc rfl
  | 2, hv, hd => simp at hv hd; subst hv hd; exact hx2
  | i + 3, hv, _ => simp at hv
end Go.Proofs.YtkgkljphjlikoaaGreat
namespace Go.Vm

end Go.Vm
end
