/- Part 5 of what the proof of TreeOrders stands on: TrSettle, TrPut, TrMore, TrNodes, TrAwake, TrStaysP, TrOrdersP, TrLawOrders, Bridge, LnCells, TreeOrdersWalk. -/
import Derived.Test.YtkgkljphjlikoaaTreeOrdersM4
section
namespace Go.Vm
open Go.RowKit Go.Proofs
set_option linter.unusedVariables false
set_option linter.unusedSimpArgs false
set_option maxRecDepth 10000

set_option maxHeartbeats 1000000 in
theorem settle_any (t m : Nat) (ht : NAM ≤ t) (hm : NAM ≤ m) (htm : ¬ t = m) (E : List EdgeD) (l : List (TagD × NodeD)) (hE : E.length ≤ 1000) (hg : Good E) (hl : Half E l) : ContractH Try.prog 90 [.ptr t 0] [(t, .obj [.mp m]), (m, .mapo (ents l))] [] [(t, .obj [.mp m]), (m, .mapo (ents (nodesOf E)))] := by
 refine T.fnH [11, 14, 24] Try.func90 ?_ (by simp only [List.forall_mem_cons, List.not_mem_nil, false_implies, implies_true, and_true]; exact ⟨ht, hm⟩) (by simp [thing]) (by simp [thing])
 have hmt : ¬ m = t := fun e => htm e.symm
 refine xscope (fb := [11, 14, 24]) T.ok (Nat.le_of_ble_eq_true rfl) [0] (fun (l2 : List (TagD × NodeD)) => 0) (fun _ => [0]) (fun (l2 : List (TagD × NodeD)) => []) (fun (l2 : List (TagD × NodeD)) => (hset (hOf [(t, .obj [.mp m]), (m, .mapo (ents l))]) m (.mapo (ents l2)))) (fun (l2 : List (TagD × NodeD)) => Half E l2) (fun (l2 : List (TagD × NodeD)) => pends l2) (fun z _ => by rfl) (by repeat (first | exact trivial | refine And.intro (fun _ => rfl) ?_)) (fun z _ => by (repeat (first | exact trivial | refine And.intro (fun _ => rfl) ?_))) ?p1 ?f1
 case' p1 =>
  rintro l2 hl2
  refine x_obj ht (by first | rfl | (simp only [hOf, hset, hpost, htm, hmt, if_true, if_false, not_false_eq_true]; first | done | rfl)) ?_
  refine x_range ?_ ⟨hm, (by first | rfl | (simp only [hOf, hset, hpost, htm, hmt, if_true, if_false, not_false_eq_true]; first | done | rfl))⟩ Try.underlying118 (ents_len _)
  refine xloopR (fb := [11, 14, 24]) T.ok (Nat.le_of_ble_eq_true rfl) [0] (fun (seen : List Nat) => [(11, .iter m l2.length seen)]) (fun seen => ∀ j ∈ seen, quiet l2 j) (fun seen => unseen l2.length seen) [] (by simp) (x_ent (by first | rfl | (simp only [Tr.get]; simp; done)) trivial) ?_
  rintro seen hq
  refine Exists.intro _ (And.intro ⟨hm, (by first | rfl | (simp only [hOf, hset, hpost, htm, hmt, if_true, if_false, not_false_eq_true]; first | done | rfl)), ents_len _⟩ (And.intro (fun hd1 => ?d1) (fun iq pq hpq hiq => ?g1)))
  case' d1 =>
   have hfin := hl2.over hg (fun j hj => hq j (hd1 j hj))
   refine brF ?_
  case' g1 =>
   obtain ⟨q, hqi, rfl⟩ := ents_at hpq
   have hm1 := List.mem_of_getElem? hqi
   have hlt1 := (List.getElem?_eq_some_iff.1 hqi).1
   refine brT ?_
   refine x_entry ?_ ⟨hm, (by first | rfl | (simp only [hOf, hset, hpost, htm, hmt, if_true, if_false, not_false_eq_true]; first | done | rfl))⟩ (ents_len _) hpq
   refine br (fun hc4 => ?y4) (fun hc4 => ?n4)
   case' y4 =>
    have hqt : quiet l2 iq := fun p hp => by rw [hqi] at hp; injection hp with hp; subst hp; exact .inl hc4
    refine x_rnd (seen ++ [iq]) (by intro j hj; rcases List.mem_append.1 hj with hj | hj; exact hq j hj; rw [List.mem_singleton.1 hj]; exact hqt) (by (try dsimp only); exact unseen_next hlt1 hiq) rfl (x_ent (by first | rfl | (simp only [Tr.get]; simp; done)) trivial) rfl
   case' n4 =>
    have hst := hc4
    obtain ⟨hpe, hpk, hpm⟩ := hl2.pend hg hm1 hst
    refine x_callR T.en_96 (at_any t m ht hm htm l2 q.2.edge.parent) ?_ ⟨⟨ht, (by first | rfl | (simp only [hOf, hset, hpost, htm, hmt, if_true, if_false, not_false_eq_true]; first | done | rfl))⟩, ⟨hm, (by first | rfl | (simp only [hOf, hset, hpost, htm, hmt, if_true, if_false, not_false_eq_true]; first | done | rfl))⟩, trivial⟩
    refine br (fun hg5 => ?y5) (fun hg5 => ?n5)
    case' y5 =>
     refine br (fun hc6 => ?y6) (fun hc6 => ?n6)
     case' y6 =>
      have hqt : quiet l2 iq := fun p hp => by rw [hqi] at hp; injection hp with hp; subst hp; exact .inr (by omega)
      refine x_rnd (seen ++ [iq]) (by intro j hj; rcases List.mem_append.1 hj with hj | hj; exact hq j hj; rw [List.mem_singleton.1 hj]; exact hqt) (by (try dsimp only); exact unseen_next hlt1 hiq) rfl (x_ent (by first | rfl | (simp only [Tr.get]; simp; done)) trivial) rfl
     case' n6 =>
      refine br (fun hc7 => ?y7) (fun hc7 => ?n7)
      case' y7 =>
       exfalso; omega
      case' n7 =>
       have hv := hl2.dead hg hpm hpe (by omega)
       refine And.intro ⟨T.mixed, by decide +kernel⟩ ?_
       have hput := hl2.put hg hqi
       have hns : ¬ (nodeOf E q.2.edge).state = 1 := by rw [hv]; simp
       refine x_obj ht (by first | rfl | (simp only [hOf, hset, hpost, htm, hmt, if_true, if_false, not_false_eq_true]; first | done | rfl)) ?_
       refine x_put (es' := ents (putT q.1 (nodeOf E q.2.edge) l2)) ?_ ⟨hm, (by first | rfl | (simp only [hOf, hset, hpost, htm, hmt, if_true, if_false, not_false_eq_true]; first | done | rfl))⟩ tagKey ⟨_, rfl⟩ (ents_keys _) Try.underlying118 (by rw [hv]; exact ents_put l2 q.1 _)
       refine x_jmp (putT q.1 (nodeOf E q.2.edge) l2) hput.2 rfl (by (try dsimp only [jlt, Sum.elim_inl, Sum.elim_inr]); rw [hput.1]; exact pends_put hqi hst hns) rfl trivial (by first | rfl | exact (hset_hset _ _ _ _).symm | exact hset_self (by first | rfl | (simp only [hOf, hset, hpost, htm, hmt, if_true, if_false, not_false_eq_true]; first | done | rfl)))
    case' n5 =>
     refine brF ?_
     refine br (fun hc9 => ?y9) (fun hc9 => ?n9)
     case' y9 =>
      have hat := hl2.at (id := q.2.edge.parent) (.inl hc9)
      have hup := hc9
      have hoX := hg.ok _ hpm
      have hoS : okL (atT l2 q.2.edge.parent).schema := by rw [hat.2.1]; exact okL_comes hg.ok _ _
      have hdp : 0 ≤ (atT l2 q.2.edge.parent).depth ∧ (atT l2 q.2.edge.parent).depth ≤ ((E.length + 1 : Nat) : Int) := by rw [hat.2.2]; exact depth_le _ _
      refine x_call T.en_39 (apply_any _ _ hoS hoX) ?_
      refine br (fun hc10 => ?y10) (fun hc10 => ?n10)
      case' y10 =>
       have hv := hl2.live hg hpm hup hc10
       refine And.intro ⟨T.mixed, by decide +kernel⟩ ?_
       first | refine x_inc ?_ | refine x_add ?_ | refine x_bin rfl rfl ?_
       refine And.intro ⟨T.mixed, by decide +kernel⟩ ?_
       have hput := hl2.put hg hqi
       have hns : ¬ (nodeOf E q.2.edge).state = 1 := by rw [hv]; simp
       refine x_obj ht (by first | rfl | (simp only [hOf, hset, hpost, htm, hmt, if_true, if_false, not_false_eq_true]; first | done | rfl)) ?_
       refine x_put (es' := ents (putT q.1 (nodeOf E q.2.edge) l2)) ?_ ⟨hm, (by first | rfl | (simp only [hOf, hset, hpost, htm, hmt, if_true, if_false, not_false_eq_true]; first | done | rfl))⟩ tagKey ⟨_, rfl⟩ (ents_keys _) Try.underlying118 (by rw [hv]; exact ents_put l2 q.1 _)
       refine x_jmp (putT q.1 (nodeOf E q.2.edge) l2) hput.2 rfl (by (try dsimp only [jlt, Sum.elim_inl, Sum.elim_inr]); rw [hput.1]; exact pends_put hqi hst hns) rfl trivial (by first | rfl | exact (hset_hset _ _ _ _).symm | exact hset_self (by first | rfl | (simp only [hOf, hset, hpost, htm, hmt, if_true, if_false, not_false_eq_true]; first | done | rfl)))
      case' n10 =>
       have hv := hl2.unfit hg hpm hpe hup hc10
       refine And.intro ⟨T.mixed, by decide +kernel⟩ ?_
       have hput := hl2.put hg hqi
       have hns : ¬ (nodeOf E q.2.edge).state = 1 := by rw [hv]; simp
       refine x_obj ht (by first | rfl | (simp only [hOf, hset, hpost, htm, hmt, if_true, if_false, not_false_eq_true]; first | done | rfl)) ?_
       refine x_put (es' := ents (putT q.1 (nodeOf E q.2.edge) l2)) ?_ ⟨hm, (by first | rfl | (simp only [hOf, hset, hpost, htm, hmt, if_true, if_false, not_false_eq_true]; first | done | rfl))⟩ tagKey ⟨_, rfl⟩ (ents_keys _) Try.underlying118 (by rw [hv]; exact ents_put l2 q.1 _)
       refine x_jmp (putT q.1 (nodeOf E q.2.edge) l2) hput.2 rfl (by (try dsimp only [jlt, Sum.elim_inl, Sum.elim_inr]); rw [hput.1]; exact pends_put hqi hst hns) rfl trivial (by first | rfl | exact (hset_hset _ _ _ _).symm | exact hset_self (by first | rfl | (simp only [hOf, hset, hpost, htm, hmt, if_true, if_false, not_false_eq_true]; first | done | rfl)))
     case' n9 =>
      exfalso; omega
 case' f1 =>
  skip
  refine x_jmp l hl rfl trivial rfl trivial (by first | rfl | exact (hset_hset _ _ _ _).symm | exact hset_self (by first | rfl | (simp only [hOf, hset, hpost, htm, hmt, if_true, if_false, not_false_eq_true]; first | done | rfl)))
 all_goals (refine ⟨?_, ⟨⟨ht, (by first | rfl | (simp only [hOf, hset, hpost, htm, hmt, if_true, if_false, not_false_eq_true]; first | done | rfl))⟩, ⟨hm, by rw [← hfin]; exact (by first | rfl | (simp only [hOf, hset, hpost, htm, hmt, if_true, if_false, not_false_eq_true]; first | done | rfl))⟩, trivial⟩⟩; simp only [fitsL, fits, C.asD, and_true] <;> (trivial))
end Go.Vm
end
section
namespace Go.Vm
open Go.RowKit Go.Proofs
set_option linter.unusedVariables false
set_option linter.unusedSimpArgs false
set_option maxRecDepth 10000

set_option maxHeartbeats 1000000 in
theorem new_any (t m : Nat) (ht : NAM ≤ t) (hm : NAM ≤ m) (htm : ¬ t = m) : ContractH Try.prog 29 [] [(t, .free), (m, .free)] [.d (.ptr t 0)] [(t, .obj [.mp m]), (m, .mapo (ents (nodesOf [])))] := by
 refine T.fnH [1, 3] Try.func29 ?_ (by simp only [List.forall_mem_cons, List.not_mem_nil, false_implies, implies_true, and_true]; exact ⟨ht, hm⟩) (by simp [thing]) (by simp [thing])
 have hmt : ¬ m = t := fun e => htm e.symm
 refine x_mkmap m ?_ ⟨hm, (by first | rfl | (simp only [hOf, hset, hpost, htm, hmt, if_true, if_false, not_false_eq_true]; first | done | rfl))⟩
 refine x_newbox t ?_ ⟨ht, (by first | rfl | (simp only [hOf, hset, hpost, htm, hmt, if_true, if_false, not_false_eq_true]; first | done | rfl))⟩
 all_goals (refine ⟨?_, ⟨⟨ht, (by first | rfl | (simp only [hOf, hset, hpost, htm, hmt, if_true, if_false, not_false_eq_true]; first | done | rfl))⟩, ⟨hm, (by first | rfl | (simp only [hOf, hset, hpost, htm, hmt, if_true, if_false, not_false_eq_true]; first | done | rfl))⟩, trivial⟩⟩; simp only [fitsL, fits, C.asD, and_true] <;> (trivial))

set_option maxHeartbeats 1000000 in
theorem put_any (t m : Nat) (ht : NAM ≤ t) (hm : NAM ≤ m) (htm : ¬ t = m) (E : List EdgeD) (e : EdgeD) (hE : E.length ≤ 900) (hg : Good E) (he : okX e.lens) : ContractH Try.prog 30 [.ptr t 0, eD e] [(t, .obj [.mp m]), (m, .mapo (ents (nodesOf E)))] [.d (.sc (.int .i64 (putE E e).2))] [(t, .obj [.mp m]), (m, .mapo (ents (nodesOf (putE E e).1)))] := by
 refine T.fnH [19, 31, 52] Try.func30 ?_ (by simp only [List.forall_mem_cons, List.not_mem_nil, false_implies, implies_true, and_true]; exact ⟨ht, hm⟩) (by simp [thing]) (by simp [thing])
 have hmt : ¬ m = t := fun e => htm e.symm
 first | refine And.intro ⟨_, Try.underlying59⟩ ?_ | refine x_bin rfl rfl ?_
 refine brF ?_
 refine x_call T.en_87 (edge_any e he) ?_
 refine br (fun hc2 => ?y2) (fun hc2 => ?n2)
 case' y2 =>
  have hpu := put_e5 (E := E) hc2
 case' n2 =>
  have hb : edgeB e = true := hc2
  refine And.intro ⟨T.mixed, by decide +kernel⟩ ?_
  refine x_obj ht (by first | rfl | (simp only [hOf, hset, hpost, htm, hmt, if_true, if_false, not_false_eq_true]; first | done | rfl)) ?_
  refine q_look2 ?_ ⟨hm, (by first | rfl | (simp only [hOf, hset, hpost, htm, hmt, if_true, if_false, not_false_eq_true]; first | done | rfl))⟩ tagKey ⟨_, rfl⟩ (ents_keys _) Try.underlying118 zeroNode (look_node _ _) (look_found _ _)
  refine br (fun hc3 => ?y3) (fun hc3 => ?n3)
  case' y3 =>
   obtain ⟨f, hf, hnd, hfm⟩ := find_some hc3
   refine x_call T.en_88 (same_any ((findT e.id (nodesOf E)).getD noNode).edge e (by rw [hnd]; exact hg.ok _ hfm)) ?_
   refine br (fun hc4 => ?y4) (fun hc4 => ?n4)
   case' y4 =>
    have hpu := put_e7 hb hf (by rw [hnd] at hc4; exact hc4)
   case' n4 =>
    have hpu := put_e15 hb hf (by rw [hnd] at hc4; exact hc4)
  case' n3 =>
   obtain ⟨hf, hf2⟩ := find_miss hc3
   refine x_obj ht (by first | rfl | (simp only [hOf, hset, hpost, htm, hmt, if_true, if_false, not_false_eq_true]; first | done | rfl)) ?_
   refine x_lenm ?_ ⟨hm, (by first | rfl | (simp only [hOf, hset, hpost, htm, hmt, if_true, if_false, not_false_eq_true]; first | done | rfl))⟩ Try.underlying118 nodes_len
   refine br (fun hc5 => ?y5) (fun hc5 => ?n5)
   case' y5 =>
    have hpu := put_e9 hb hf (by omega)
   case' n5 =>
    have hpu := put_e0 hb hf (by omega)
    have hgm := hg.more he hb hf
    refine x_obj ht (by first | rfl | (simp only [hOf, hset, hpost, htm, hmt, if_true, if_false, not_false_eq_true]; first | done | rfl)) ?_
    first | refine And.intro ⟨_, _, Try.underlying118⟩ ?_ | refine x_bin rfl rfl ?_
    refine brF ?_
    refine And.intro ⟨T.mixed, by decide +kernel⟩ ?_
    refine x_obj ht (by first | rfl | (simp only [hOf, hset, hpost, htm, hmt, if_true, if_false, not_false_eq_true]; first | done | rfl)) ?_
    refine x_call T.en_89 (own_any e he) ?_
    refine x_put (es' := ents (nodesOf E ++ [(e.id, pend e)])) ?_ ⟨hm, (by first | rfl | (simp only [hOf, hset, hpost, htm, hmt, if_true, if_false, not_false_eq_true]; first | done | rfl))⟩ tagKey ⟨_, rfl⟩ (ents_keys _) Try.underlying118 (by rw [← putT_new hf2]; exact ents_put (nodesOf E) e.id (pend e))
    refine x_callH T.en_90 (settle_any t m ht hm htm (E ++ [e]) (nodesOf E ++ [(e.id, pend e)]) (by rw [List.length_append]; simp; omega) hgm (nodes_half hgm)) ?_ ⟨⟨ht, (by first | rfl | (simp only [hOf, hset, hpost, htm, hmt, if_true, if_false, not_false_eq_true]; first | done | rfl))⟩, ⟨hm, (by first | rfl | (simp only [hOf, hset, hpost, htm, hmt, if_true, if_false, not_false_eq_true]; first | done | rfl))⟩, trivial⟩
 all_goals (refine ⟨?_, ⟨⟨ht, (by first | rfl | (simp only [hOf, hset, hpost, htm, hmt, if_true, if_false, not_false_eq_true]; first | done | rfl))⟩, ⟨hm, by rw [hpu]; exact (by first | rfl | (simp only [hOf, hset, hpost, htm, hmt, if_true, if_false, not_false_eq_true]; first | done | rfl))⟩, trivial⟩⟩; simp only [fitsL, fits, C.asD, and_true] <;> (rw [hpu]))
end Go.Vm
end
section
namespace Go.Vm
open Go.RowKit Go.Proofs
set_option linter.unusedVariables false
set_option linter.unusedSimpArgs false
set_option maxRecDepth 10000

theorem copy_all {l l2 : List (TagD × NodeD)} {seen : List Nat} (h : Seen l.length seen) (hA : l2 = pick (fun _ => true) (fun q => q) l seen) (ha : ∀ i, i < l.length → i ∈ seen) : l2.Perm l := by
  rw [hA]
  have := pick_all (p := fun _ => true) (f := fun q => q) h ha
  rw [List.map_id', List.filter_eq_self.2 (by intro a _; rfl)] at this
  exact this
theorem copy_heap {h : Hp} {c d : Nat} (hcd : ¬ c = d) : hset (hset (hset h d (.mapo [])) c (.obj [.mp d])) d (.mapo (ents [])) = hpost h [(c, .obj [.mp d]), (d, .mapo (ents []))] := by
  funext u
  simp only [hpost, hset]
  by_cases h1 : u = d
  · subst h1; have : ¬ u = c := fun e => hcd e.symm; simp [this]
  · by_cases h2 : u = c
    · subst h2; simp [h1]
    · simp [h1, h2]
theorem pick_mem {l : List (TagD × NodeD)} {seen : List Nat} {x : TagD × NodeD} (h : x ∈ pick (fun _ => true) (fun q => q) l seen) : ∃ i, i ∈ seen ∧ l[i]? = some x := by
  obtain ⟨i, hi, he⟩ := List.mem_filterMap.1 h
  refine ⟨i, hi, ?_⟩
  cases hq : l[i]? with
  | none => rw [hq] at he; cases he
  | some q => rw [hq] at he; simpa using he
theorem putT_fresh {β : Type} {k : TagD} {v : β} : ∀ {l : List (TagD × β)}, (∀ p ∈ l, ¬ p.1 = k) → putT k v l = l ++ [(k, v)]
  | [], _ => rfl
  | p :: l, h => by
    rw [putT, if_neg (fun e => h p (List.mem_cons_self ..) e.symm), putT_fresh fun q hq => h q (List.mem_cons_of_mem _ hq)]; rfl
theorem copy_put {l : List (TagD × NodeD)} {seen : List Nat} {i : Nat} {q : TagD × NodeD} (hu : l.Pairwise fun a b => ¬ a.1 = b.1) (h : Seen l.length seen) (hq : l[i]? = some q) (hi : i ∉ seen) : putD (tD q.1) (nD q.2) (ents (pick (fun _ => true) (fun q => q) l seen)) = ents (pick (fun _ => true) (fun q => q) l seen ++ [q]) := by
  rw [ents_put, putT_fresh]
  intro p hp e
  obtain ⟨j, hj, hp2⟩ := pick_mem hp
  have hne : i ≠ j := fun e2 => hi (e2 ▸ hj)
  obtain ⟨h1, h2⟩ := List.getElem?_eq_some_iff.1 hq
  obtain ⟨h3, h4⟩ := List.getElem?_eq_some_iff.1 hp2
  rw [List.pairwise_iff_getElem] at hu
  rcases Nat.lt_or_gt_of_ne hne with hlt | hlt
  · have := hu i j h1 h3 hlt; rw [h2, h4] at this; exact this e.symm
  · have := hu j i h3 h1 hlt; rw [h2, h4] at this; exact this e

set_option maxHeartbeats 1000000 in
theorem edges1_any (n : NodeD) : Contract Try.prog 93 [nD n] [.d (.sc (.bool (true)))] := by
 refine T.fn [] Try.func93 ?_
 all_goals (refine x_ret ?_; simp only [fitsL, fits, C.asD, and_true] <;> (rfl))

set_option maxHeartbeats 1000000 in
theorem live1_any (n : NodeD) : Contract Try.prog 94 [nD n] [.d (.sc (.bool (decide (n.state = 2))))] := by
 refine T.fn [] Try.func94 ?_
 all_goals (refine x_ret ?_; simp only [fitsL, fits, C.asD, and_true] <;> (rfl))

set_option maxHeartbeats 1000000 in
theorem edges_any (t m : Nat) (ht : NAM ≤ t) (hm : NAM ≤ m) (htm : ¬ t = m) (l : List (TagD × NodeD)) (hl : l.length ≤ 1000) (hx : ∀ k, okX ((findT k l).getD noNode).edge.lens) : ContractH Try.prog 33 [.ptr t 0] [(t, .obj [.mp m]), (m, .mapo (ents l))] [.d (.row ((edgesOf l).map eD))] [(t, .obj [.mp m]), (m, .mapo (ents l))] := by
 refine T.fnH [9, 21, 1025] Try.func33 ?_ (by simp only [List.forall_mem_cons, List.not_mem_nil, false_implies, implies_true, and_true]; exact ⟨ht, hm⟩) (by simp [thing]) (by simp [thing])
 have hmt : ¬ m = t := fun e => htm e.symm
 first | refine And.intro ⟨_, Try.underlying59⟩ ?_ | refine x_bin rfl rfl ?_
 refine brF ?_
 refine x_callR T.en_92 (tags_any t m ht hm htm l hl 93 (fun _ => true) (by kernel_rfl) edges1_any) ?_ ⟨⟨ht, (by first | rfl | (simp only [hOf, hset, hpost, htm, hmt, if_true, if_false, not_false_eq_true]; first | done | rfl))⟩, ⟨hm, (by first | rfl | (simp only [hOf, hset, hpost, htm, hmt, if_true, if_false, not_false_eq_true]; first | done | rfl))⟩, trivial⟩
 refine x_len ?_
 refine xnil 3 500003 58 rfl (by decide) (by decide +kernel) ?_
 refine xloopR (fb := [9, 21, 1025]) T.ok (Nat.le_of_ble_eq_true rfl) [0, 9, 10] (fun (s : Nat × List EdgeD) => [(11, .c (.d (.sc (.int .i64 ((s.1 : Nat) : Int))))), (3, .c (.own 500003 58 (s.2.map eD)))]) (fun s => s.1 ≤ (tagsOf (fun _ => true) l).length ∧ s.2 = ((tagsOf (fun _ => true) l).take s.1).map fun k => ((findT k l).getD noNode).edge) (fun s => (tagsOf (fun _ => true) l).length - s.1) (0, []) ⟨Nat.zero_le _, rfl⟩ (x_ent (by first | rfl | (simp only [Tr.get]; simp; done)) (x_ent (by first | rfl | (simp only [Tr.get]; simp; done)) trivial)) ?_
 rintro s ⟨hk, hA⟩
 have hil : (tagsOf (fun _ => true) l).length ≤ 1000 := Nat.le_trans tagsOf_len hl
 have hAl : s.2.length ≤ 1000 := by rw [hA, List.length_map, List.length_take]; omega
 refine br (fun hc2 => ?y2) (fun hc2 => ?n2)
 case' y2 =>
  obtain ⟨p, hp⟩ := elem_at hc2
  have hkl := lt_len hp
  have hoX := hx p
  first | refine x_ix (by exact mapAt hp) ?_ | refine x_ixI (by exact mapAt hp) ?_
  refine And.intro ⟨T.mixed, by decide +kernel⟩ ?_
  refine x_obj ht (by first | rfl | (simp only [hOf, hset, hpost, htm, hmt, if_true, if_false, not_false_eq_true]; first | done | rfl)) ?_
  refine q_look ?_ ⟨hm, (by first | rfl | (simp only [hOf, hset, hpost, htm, hmt, if_true, if_false, not_false_eq_true]; first | done | rfl))⟩ tagKey ⟨_, rfl⟩ (ents_keys _) Try.underlying118 zeroNode (look_node _ _)
  refine x_field Try.underlying123 rfl (T.k_58).1 ?_
  refine x_call T.en_89 (own_any _ hoX) ?_
  first | refine x_app ?_ (by first | exact eDs_wide _ | exact eD_wide | exact tDs_wide _ | exact tD_wide | (simp [D.cells])) (hz := by first | exact snoc_map | exact one_map | exact List.map_take.symm | exact slice_drop | exact rfl | rfl) | refine x_appN ?_ (by first | exact eDs_wide _ | exact eD_wide | exact tDs_wide _ | exact tD_wide | (simp [D.cells]))
  first | refine x_inc ?_ | refine x_add ?_ | refine x_bin rfl rfl ?_
  refine x_rnd (s.1 + 1, s.2 ++ [((findT p l).getD noNode).edge]) ⟨lt_len hp, by rw [take_next hp, hA]; simp⟩ (by (try dsimp only); have := lt_len hp; (try dsimp only); omega) rfl (x_ent (by first | rfl | (simp only [Tr.get]; simp; done)) (x_ent (by first | rfl | (simp only [Tr.get]; simp; done)) trivial)) rfl
 all_goals (refine ⟨?_, ⟨⟨ht, (by first | rfl | (simp only [hOf, hset, hpost, htm, hmt, if_true, if_false, not_false_eq_true]; first | done | rfl))⟩, ⟨hm, (by first | rfl | (simp only [hOf, hset, hpost, htm, hmt, if_true, if_false, not_false_eq_true]; first | done | rfl))⟩, trivial⟩⟩; simp only [fitsL, fits, C.asD, and_true] <;> (refine row_inj ?_; rw [hA, List.take_of_length_le (past_end (by assumption))]; rfl))

set_option maxHeartbeats 1000000 in
theorem live_any (t m : Nat) (ht : NAM ≤ t) (hm : NAM ≤ m) (htm : ¬ t = m) (l : List (TagD × NodeD)) (hl : l.length ≤ 1000) : ContractH Try.prog 35 [.ptr t 0] [(t, .obj [.mp m]), (m, .mapo (ents l))] [.d (.row ((noTag :: tagsOf (fun n => decide (n.state = 2)) l).map tD))] [(t, .obj [.mp m]), (m, .mapo (ents l))] := by
 refine T.fnH [7] Try.func35 ?_ (by simp only [List.forall_mem_cons, List.not_mem_nil, false_implies, implies_true, and_true]; exact ⟨ht, hm⟩) (by simp [thing]) (by simp [thing])
 have hmt : ¬ m = t := fun e => htm e.symm
 have hil : (tagsOf (fun n => decide (n.state = 2)) l).length ≤ 1000 := Nat.le_trans tagsOf_len hl
 first | refine And.intro ⟨_, Try.underlying59⟩ ?_ | refine x_bin rfl rfl ?_
 refine brF ?_
 refine x_callR T.en_92 (tags_any t m ht hm htm l hl 94 (fun n => decide (n.state = 2)) (by kernel_rfl) live1_any) ?_ ⟨⟨ht, (by first | rfl | (simp only [hOf, hset, hpost, htm, hmt, if_true, if_false, not_false_eq_true]; first | done | rfl))⟩, ⟨hm, (by first | rfl | (simp only [hOf, hset, hpost, htm, hmt, if_true, if_false, not_false_eq_true]; first | done | rfl))⟩, trivial⟩
 refine x_call T.en_95 (root_any) ?_
 first | refine x_app ?_ (by first | exact eDs_wide _ | exact eD_wide | exact tDs_wide _ | exact tD_wide | (simp [D.cells])) (hz := by first | exact snoc_map | exact one_map | exact List.map_take.symm | exact slice_drop | exact rfl | rfl) | refine x_appN ?_ (by first | exact eDs_wide _ | exact eD_wide | exact tDs_wide _ | exact tD_wide | (simp [D.cells]))
 all_goals (refine ⟨?_, ⟨⟨ht, (by first | rfl | (simp only [hOf, hset, hpost, htm, hmt, if_true, if_false, not_false_eq_true]; first | done | rfl))⟩, ⟨hm, (by first | rfl | (simp only [hOf, hset, hpost, htm, hmt, if_true, if_false, not_false_eq_true]; first | done | rfl))⟩, trivial⟩⟩; simp only [fitsL, fits, C.asD, and_true] <;> (rfl))

set_option maxHeartbeats 1000000 in
theorem copy_any (t m c d : Nat) (ht : NAM ≤ t) (hm : NAM ≤ m) (hc : NAM ≤ c) (hd : NAM ≤ d) (htm : ¬ t = m) (htc : ¬ t = c) (htd : ¬ t = d) (hmc : ¬ m = c) (hmd : ¬ m = d) (hcd : ¬ c = d) (l : List (TagD × NodeD)) (hu : l.Pairwise fun a b => ¬ a.1 = b.1) : ContractE Try.prog 31 [.ptr t 0] [(t, .obj [.mp m]), (m, .mapo (ents l)), (c, .free), (d, .free)] (fun (l2 : List (TagD × NodeD)) => l2.Perm l) (fun (l2 : List (TagD × NodeD)) => [.d (.ptr c 0)]) (fun (l2 : List (TagD × NodeD)) => [(t, .obj [.mp m]), (m, .mapo (ents l)), (c, .obj [.mp d]), (d, .mapo (ents l2))]) := by
 refine T.fnE [8, 13, 16] Try.func31 ?_ (by simp only [List.forall_mem_cons, List.not_mem_nil, false_implies, implies_true, and_true]; exact ⟨ht, hm, hc, hd⟩) (by simp [thing]) (by simp [thing])
 have hmt : ¬ m = t := fun e => htm e.symm
 have hct : ¬ c = t := fun e => htc e.symm
 have hdt : ¬ d = t := fun e => htd e.symm
 have hcm : ¬ c = m := fun e => hmc e.symm
 have hdm : ¬ d = m := fun e => hmd e.symm
 have hdc : ¬ d = c := fun e => hcd e.symm
 first | refine And.intro ⟨_, Try.underlying59⟩ ?_ | refine x_bin rfl rfl ?_
 refine brF ?_
 refine x_callH T.en_29 (new_any c d hc hd hcd) ?_ ⟨⟨hc, (by first | rfl | (simp only [hOf, hset, hpost, htm, htc, htd, hmc, hmd, hcd, hmt, hct, hdt, hcm, hdm, hdc, if_true, if_false, not_false_eq_true]; first | done | rfl))⟩, ⟨hd, (by first | rfl | (simp only [hOf, hset, hpost, htm, htc, htd, hmc, hmd, hcd, hmt, hct, hdt, hcm, hdm, hdc, if_true, if_false, not_false_eq_true]; first | done | rfl))⟩, trivial⟩
 refine x_obj ht (by first | rfl | (simp only [hOf, hset, hpost, htm, htc, htd, hmc, hmd, hcd, hmt, hct, hdt, hcm, hdm, hdc, if_true, if_false, not_false_eq_true]; first | done | rfl)) ?_
 refine x_range ?_ ⟨hm, (by first | rfl | (simp only [hOf, hset, hpost, htm, htc, htd, hmc, hmd, hcd, hmt, hct, hdt, hcm, hdm, hdc, if_true, if_false, not_false_eq_true]; first | done | rfl))⟩ Try.underlying118 (ents_len _)
 refine xloop (fb := [8, 13, 16]) T.ok (Nat.le_of_ble_eq_true rfl) [3] (fun (s : List Nat × List (TagD × NodeD)) => [(13, .iter m l.length s.1)]) (fun s => (hset (hset (hset (hOf [(t, .obj [.mp m]), (m, .mapo (ents l)), (c, .free), (d, .free)]) d (.mapo [])) c (.obj [.mp d])) d (.mapo (ents s.2)))) (fun s => Seen l.length s.1 ∧ s.2 = pick (fun _ => true) (fun q => q) l s.1) (fun s => unseen l.length s.1) ([], []) ⟨⟨List.nodup_nil, by simp⟩, rfl⟩ (x_ent (by first | rfl | (simp only [Tr.get]; simp; done)) trivial) (by first | rfl | exact copy_heap hcd) ?_
 rintro s ⟨hse, hA⟩
 refine Exists.intro _ (And.intro ⟨hm, (by first | rfl | (simp only [hOf, hset, hpost, htm, htc, htd, hmc, hmd, hcd, hmt, hct, hdt, hcm, hdm, hdc, if_true, if_false, not_false_eq_true]; first | done | rfl)), ents_len _⟩ (And.intro (fun hd2 => ?d2) (fun iq pq hpq hiq => ?g2)))
 case' d2 =>
  have hfin := copy_all hse hA hd2
  refine brF ?_
 case' g2 =>
  obtain ⟨q, hqi, rfl⟩ := ents_at hpq
  have hlt1 := (List.getElem?_eq_some_iff.1 hqi).1
  refine brT ?_
  refine x_entry ?_ ⟨hm, (by first | rfl | (simp only [hOf, hset, hpost, htm, htc, htd, hmc, hmd, hcd, hmt, hct, hdt, hcm, hdm, hdc, if_true, if_false, not_false_eq_true]; first | done | rfl))⟩ (ents_len _) hpq
  refine And.intro ⟨T.mixed, by decide +kernel⟩ ?_
  refine x_obj hc (by first | rfl | (simp only [hOf, hset, hpost, htm, htc, htd, hmc, hmd, hcd, hmt, hct, hdt, hcm, hdm, hdc, if_true, if_false, not_false_eq_true]; first | done | rfl)) ?_
  refine x_put (es' := ents (s.2 ++ [q])) ?_ ⟨hd, (by first | rfl | (simp only [hOf, hset, hpost, htm, htc, htd, hmc, hmd, hcd, hmt, hct, hdt, hcm, hdm, hdc, if_true, if_false, not_false_eq_true]; first | done | rfl))⟩ tagKey ⟨_, rfl⟩ (ents_keys _) Try.underlying118 (by rw [hA]; exact copy_put hu hse hqi hiq)
  refine x_rnd (s.1 ++ [iq], s.2 ++ [q]) ⟨hse.next hlt1 hiq, by rw [pick_yes hqi rfl, hA]⟩ (by (try dsimp only); exact unseen_next hlt1 hiq) rfl (x_ent (by first | rfl | (simp only [Tr.get]; simp; done)) trivial) (by first | rfl | exact (hset_hset _ _ _ _).symm)
 all_goals (refine ⟨s.2, hfin, ?_, ⟨⟨ht, (by first | rfl | (simp only [hOf, hset, hpost, htm, htc, htd, hmc, hmd, hcd, hmt, hct, hdt, hcm, hdm, hdc, if_true, if_false, not_false_eq_true]; first | done | rfl))⟩, ⟨hm, (by first | rfl | (simp only [hOf, hset, hpost, htm, htc, htd, hmc, hmd, hcd, hmt, hct, hdt, hcm, hdm, hdc, if_true, if_false, not_false_eq_true]; first | done | rfl))⟩, ⟨hc, (by first | rfl | (simp only [hOf, hset, hpost, htm, htc, htd, hmc, hmd, hcd, hmt, hct, hdt, hcm, hdm, hdc, if_true, if_false, not_false_eq_true]; first | done | rfl))⟩, ⟨hd, (by first | rfl | (simp only [hOf, hset, hpost, htm, htc, htd, hmc, hmd, hcd, hmt, hct, hdt, hcm, hdm, hdc, if_true, if_false, not_false_eq_true]; first | done | rfl))⟩, trivial⟩⟩; simp only [fitsL, fits, C.asD, and_true] <;> (rfl))
end Go.Vm
end
section
namespace Go.Vm
open Go.RowKit Go.Proofs
set_option linter.unusedVariables false
set_option linter.unusedSimpArgs false
set_option maxRecDepth 10000

theorem find_perm {β : Type} {k : TagD} {l l' : List (TagD × β)} (hp : l.Perm l') : l.Pairwise (fun a b => ¬ a.1 = b.1) → findT k l = findT k l' := by
  induction hp with
  | nil => intro _; rfl
  | cons x _ ih =>
    intro h
    simp only [findT]
    rw [ih (List.pairwise_cons.1 h).2]
  | swap x y l =>
    intro h
    simp only [findT]
    have h1 := (List.pairwise_cons.1 h).1 x (List.mem_cons_self ..)
    by_cases e1 : k = y.1
    · rw [if_pos e1, if_neg (fun e2 => h1 (e1.symm.trans e2)), if_pos e1]
    · rw [if_neg e1, if_neg e1]
  | trans h1 _ ih1 ih2 =>
    intro h
    exact (ih1 h).trans (ih2 ((h1.pairwise_iff (R := fun a b : TagD × β => ¬ a.1 = b.1) (fun h e => h e.symm)).1 h))
theorem nodes_uniq {E : List EdgeD} (hg : Good E) : (nodesOf E).Pairwise fun a b => ¬ a.1 = b.1 := by
  unfold nodesOf
  exact List.pairwise_map.2 hg.uniq
theorem perm_uniq {E : List EdgeD} {l : List (TagD × NodeD)} (hg : Good E) (hl : l.Perm (nodesOf E)) : l.Pairwise fun a b => ¬ a.1 = b.1 := (hl.pairwise_iff (R := fun a b : TagD × NodeD => ¬ a.1 = b.1) (fun h e => h e.symm)).2 (nodes_uniq hg)
theorem perm_find {E : List EdgeD} {l : List (TagD × NodeD)} (hg : Good E) (hl : l.Perm (nodesOf E)) (k : TagD) : findT k l = (edgeOf E k).map (nodeOf E) := by
  rw [find_perm hl (perm_uniq hg hl), find_nodes]
theorem perm_at {E : List EdgeD} {l : List (TagD × NodeD)} (hg : Good E) (hl : l.Perm (nodesOf E)) (k : TagD) : (atT l k).state = (cameOf E k).1 ∧ (atT l k).schema = (cameOf E k).2.1 ∧ (atT l k).depth = (cameOf E k).2.2 := by
  by_cases h0 : k = noTag
  · subst h0; rw [at_root rfl, came_root]; exact ⟨rfl, rfl, rfl⟩
  · rw [at_other h0, perm_find hg hl]
    cases h : edgeOf E k with
    | none => rw [came_none h0 h]; exact ⟨rfl, rfl, rfl⟩
    | some e =>
      obtain ⟨_, rfl⟩ := edge_mem h
      exact ⟨rfl, rfl, rfl⟩
theorem perm_len {E : List EdgeD} {l : List (TagD × NodeD)} (hl : l.Perm (nodesOf E)) : l.length = E.length := by rw [hl.length_eq]; simp [nodesOf]
theorem okX_none : okX noEdge.lens := ⟨by decide, by decide, by decide⟩
theorem perm_okX {E : List EdgeD} {l : List (TagD × NodeD)} (hg : Good E) (hl : l.Perm (nodesOf E)) (k : TagD) : okX ((findT k l).getD noNode).edge.lens := by
  rw [perm_find hg hl]
  cases h : edgeOf E k with
  | none => exact okX_none
  | some e => exact hg.ok e (edge_mem h).1
theorem edge_okX {E : List EdgeD} (hg : Good E) (k : TagD) : okX ((edgeOf E k).getD noEdge).lens := by
  cases h : edgeOf E k with
  | none => exact okX_none
  | some e => exact hg.ok e (edge_mem h).1
theorem came_same {E : List EdgeD} {k : TagD} : (if (cameOf E k).1 = 2 then (cameOf E k).2.1 else []) = (cameOf E k).2.1 := by
  split
  · rfl
  · rename_i h
    by_cases h0 : k = noTag
    · subst h0; rw [came_root] at h; exact absurd rfl h
    · cases he : edgeOf E k with
      | none => rw [came_none h0 he]
      | some e =>
        rw [came_step h0 he] at h ⊢
        unfold stepC at h ⊢
        split
        · rename_i h2; rw [if_pos h2] at h
          split
          · rename_i h3; rw [if_pos h3] at h; exact absurd rfl h
          · rfl
        · split <;> rfl
theorem perm_edges {E : List EdgeD} {l : List (TagD × NodeD)} (hg : Good E) (hl : l.Perm (nodesOf E)) : edgesOf l = sortE E := by
  rw [← edgesOf_nodes hg.uniq]
  unfold edgesOf
  rw [tagsOf_perm hl]
  refine List.map_congr_left fun k _ => ?_
  rw [find_perm hl (perm_uniq hg hl)]
theorem perm_live {E : List EdgeD} {l : List (TagD × NodeD)} (hl : l.Perm (nodesOf E)) : noTag :: tagsOf (fun n => decide (n.state = 2)) l = liveE E := by
  rw [tagsOf_perm hl, liveOf_nodes]; rfl
theorem okL_came {E : List EdgeD} (hg : Good E) (k : TagD) : okL (cameOf E k).2.1 := okL_comes hg.ok _ k
theorem stateL (t m : Nat) (ht : NAM ≤ t) (hm : NAM ≤ m) (htm : ¬ t = m) (E : List EdgeD) (hg : Good E) (hE : E.length ≤ 1000) (l : List (TagD × NodeD)) (hl : l.Perm (nodesOf E)) (id : TagD) : ContractH Try.prog 38 [.ptr t 0, tD id] [(t, .obj [.mp m]), (m, .mapo (ents l))] [.d (.sc (.int .i64 (cameOf E id).1))] [(t, .obj [.mp m]), (m, .mapo (ents l))] := by
  have h := state_any t m ht hm htm l id
  rwa [(perm_at hg hl id).1] at h
theorem depthL (t m : Nat) (ht : NAM ≤ t) (hm : NAM ≤ m) (htm : ¬ t = m) (E : List EdgeD) (hg : Good E) (hE : E.length ≤ 1000) (l : List (TagD × NodeD)) (hl : l.Perm (nodesOf E)) (id : TagD) : ContractH Try.prog 86 [.ptr t 0, tD id] [(t, .obj [.mp m]), (m, .mapo (ents l))] [.d (.sc (.int .i64 (if (cameOf E id).1 = 2 then (cameOf E id).2.2 else -1)))] [(t, .obj [.mp m]), (m, .mapo (ents l))] := by
  have h := depth_any t m ht hm htm l id
  rwa [(perm_at hg hl id).1, (perm_at hg hl id).2.2] at h
theorem schemaL (t m : Nat) (ht : NAM ≤ t) (hm : NAM ≤ m) (htm : ¬ t = m) (E : List EdgeD) (hg : Good E) (hE : E.length ≤ 1000) (l : List (TagD × NodeD)) (hl : l.Perm (nodesOf E)) (id : TagD) : ContractH Try.prog 36 [.ptr t 0, tD id] [(t, .obj [.mp m]), (m, .mapo (ents l))] [.d (.row ((if (cameOf E id).1 = 2 then (cameOf E id).2.1 else []).map fD)), .d (.sc (.int .i64 (if (cameOf E id).1 = 2 then 0 else if (cameOf E id).1 = 3 then 16 else 13)))] [(t, .obj [.mp m]), (m, .mapo (ents l))] := by
  have h := schema_any t m ht hm htm l id (by rw [(perm_at hg hl id).2.1]; exact okL_came hg id)
  rwa [(perm_at hg hl id).1, (perm_at hg hl id).2.1] at h
theorem edgesL (t m : Nat) (ht : NAM ≤ t) (hm : NAM ≤ m) (htm : ¬ t = m) (E : List EdgeD) (hg : Good E) (hE : E.length ≤ 1000) (l : List (TagD × NodeD)) (hl : l.Perm (nodesOf E)) : ContractH Try.prog 33 [.ptr t 0] [(t, .obj [.mp m]), (m, .mapo (ents l))] [.d (.row ((sortE E).map eD))] [(t, .obj [.mp m]), (m, .mapo (ents l))] := by
  have h := edges_any t m ht hm htm l (by rw [perm_len hl]; exact hE) (perm_okX hg hl)
  rwa [perm_edges hg hl] at h
theorem liveL (t m : Nat) (ht : NAM ≤ t) (hm : NAM ≤ m) (htm : ¬ t = m) (E : List EdgeD) (hg : Good E) (hE : E.length ≤ 1000) (l : List (TagD × NodeD)) (hl : l.Perm (nodesOf E)) : ContractH Try.prog 35 [.ptr t 0] [(t, .obj [.mp m]), (m, .mapo (ents l))] [.d (.row ((liveE E).map tD))] [(t, .obj [.mp m]), (m, .mapo (ents l))] := by
  have h := live_any t m ht hm htm l (by rw [perm_len hl]; exact hE)
  rwa [perm_live hl] at h

end Go.Vm
end
section
namespace Go.Vm
open Go.RowKit Go.Proofs
set_option linter.unusedVariables false
set_option linter.unusedSimpArgs false
set_option maxRecDepth 10000

def exA : EdgeD := ⟨⟨1, 1⟩, noTag, ⟨2, noRef, noB, noB, 0, ⟨⟨0, noB, ⟨#[120]⟩⟩, 4, noB, [], 0⟩, [], []⟩⟩
def exB : EdgeD := ⟨⟨2, 1⟩, ⟨1, 1⟩, ⟨1, ⟨0, noB, ⟨#[120]⟩⟩, ⟨#[121]⟩, noB, 0, noField, [], []⟩⟩
theorem ex1 : putE [] exB = ([exB], 0) := by kernel_rfl
theorem ex2 : putE [exB] exA = ([exB, exA], 0) := by kernel_rfl
theorem ex3 : (atT (nodesOf [exB]) exB.id).state = 1 := by kernel_rfl
theorem ex4 : (atT (nodesOf [exB, exA]) exB.id).state = 2 := by kernel_rfl
theorem ex5 : (atT (nodesOf [exB, exA]) exB.id).depth = 2 := by kernel_rfl
theorem good_nil : Good [] := ⟨by simp, by simp, .nil⟩
theorem okA : okX exA.lens := ⟨by decide, by decide, by decide⟩
theorem okB : okX exB.lens := ⟨by decide, by decide, by decide⟩
theorem good1 : Good [exB] := by have := good_nil.put okB; rwa [ex1] at this
theorem exPut1 (t m : Nat) (ht : NAM ≤ t) (hm : NAM ≤ m) (htm : ¬ t = m) : ContractH Try.prog 30 [.ptr t 0, eD exB] [(t, .obj [.mp m]), (m, .mapo (ents (nodesOf [])))] [.d (.sc (.int .i64 0))] [(t, .obj [.mp m]), (m, .mapo (ents (nodesOf [exB])))] := by
  have := put_any t m ht hm htm [] exB (by simp) good_nil okB
  rwa [ex1] at this
theorem exPut2 (t m : Nat) (ht : NAM ≤ t) (hm : NAM ≤ m) (htm : ¬ t = m) : ContractH Try.prog 30 [.ptr t 0, eD exA] [(t, .obj [.mp m]), (m, .mapo (ents (nodesOf [exB])))] [.d (.sc (.int .i64 0))] [(t, .obj [.mp m]), (m, .mapo (ents (nodesOf [exB, exA])))] := by
  have := put_any t m ht hm htm [exB] exA (by simp) good1 okA
  rwa [ex2] at this
theorem exState1 (t m : Nat) (ht : NAM ≤ t) (hm : NAM ≤ m) (htm : ¬ t = m) : ContractH Try.prog 38 [.ptr t 0, tD exB.id] [(t, .obj [.mp m]), (m, .mapo (ents (nodesOf [exB])))] [.d (.sc (.int .i64 1))] [(t, .obj [.mp m]), (m, .mapo (ents (nodesOf [exB])))] := by
  have := state_any t m ht hm htm (nodesOf [exB]) exB.id
  rwa [ex3] at this
theorem exState2 (t m : Nat) (ht : NAM ≤ t) (hm : NAM ≤ m) (htm : ¬ t = m) : ContractH Try.prog 38 [.ptr t 0, tD exB.id] [(t, .obj [.mp m]), (m, .mapo (ents (nodesOf [exB, exA])))] [.d (.sc (.int .i64 2))] [(t, .obj [.mp m]), (m, .mapo (ents (nodesOf [exB, exA])))] := by
  have := state_any t m ht hm htm (nodesOf [exB, exA]) exB.id
  rwa [ex4] at this
theorem exDepth (t m : Nat) (ht : NAM ≤ t) (hm : NAM ≤ m) (htm : ¬ t = m) : ContractH Try.prog 86 [.ptr t 0, tD exB.id] [(t, .obj [.mp m]), (m, .mapo (ents (nodesOf [exB, exA])))] [.d (.sc (.int .i64 2))] [(t, .obj [.mp m]), (m, .mapo (ents (nodesOf [exB, exA])))] := by
  have := depth_any t m ht hm htm (nodesOf [exB, exA]) exB.id
  rwa [ex4, ex5, if_pos rfl] at this

set_option maxHeartbeats 1000000 in
theorem awake_any (t m : Nat) (ht : NAM ≤ t) (hm : NAM ≤ m) (htm : ¬ t = m) : ContractH Try.prog 26 [] [(t, .free), (m, .free)] [.d (.sc (.bool (true)))] [(t, .obj [.mp m]), (m, .mapo (ents (nodesOf [exB, exA])))] := by
 refine T.fnH [7, 21, 25, 28, 43, 50] Try.func26 ?_ (by simp only [List.forall_mem_cons, List.not_mem_nil, false_implies, implies_true, and_true]; exact ⟨ht, hm⟩) (by simp [thing]) (by simp [thing])
 have hmt : ¬ m = t := fun e => htm e.symm
 refine x_callH T.en_29 (new_any t m ht hm htm) ?_ ⟨⟨ht, (by first | rfl | (simp only [hOf, hset, hpost, htm, hmt, if_true, if_false, not_false_eq_true]; first | done | rfl))⟩, ⟨hm, (by first | rfl | (simp only [hOf, hset, hpost, htm, hmt, if_true, if_false, not_false_eq_true]; first | done | rfl))⟩, trivial⟩
 refine x_callH T.en_30 (exPut1 t m ht hm htm) ?_ ⟨⟨ht, (by first | rfl | (simp only [hOf, hset, hpost, htm, hmt, if_true, if_false, not_false_eq_true]; first | done | rfl))⟩, ⟨hm, (by first | rfl | (simp only [hOf, hset, hpost, htm, hmt, if_true, if_false, not_false_eq_true]; first | done | rfl))⟩, trivial⟩
 refine x_callR T.en_38 (exState1 t m ht hm htm) ?_ ⟨⟨ht, (by first | rfl | (simp only [hOf, hset, hpost, htm, hmt, if_true, if_false, not_false_eq_true]; first | done | rfl))⟩, ⟨hm, (by first | rfl | (simp only [hOf, hset, hpost, htm, hmt, if_true, if_false, not_false_eq_true]; first | done | rfl))⟩, trivial⟩
 refine x_callH T.en_30 (exPut2 t m ht hm htm) ?_ ⟨⟨ht, (by first | rfl | (simp only [hOf, hset, hpost, htm, hmt, if_true, if_false, not_false_eq_true]; first | done | rfl))⟩, ⟨hm, (by first | rfl | (simp only [hOf, hset, hpost, htm, hmt, if_true, if_false, not_false_eq_true]; first | done | rfl))⟩, trivial⟩
 refine br (fun hg1 => ?y1) (fun hg1 => ?n1)
 case' y1 =>
  refine br (fun hg2 => ?y2) (fun hg2 => ?n2)
  case' y2 =>
   refine br (fun hg3 => ?y3) (fun hg3 => ?n3)
   case' y3 =>
    refine x_callR T.en_38 (exState2 t m ht hm htm) ?_ ⟨⟨ht, (by first | rfl | (simp only [hOf, hset, hpost, htm, hmt, if_true, if_false, not_false_eq_true]; first | done | rfl))⟩, ⟨hm, (by first | rfl | (simp only [hOf, hset, hpost, htm, hmt, if_true, if_false, not_false_eq_true]; first | done | rfl))⟩, trivial⟩
    refine br (fun hg4 => ?y4) (fun hg4 => ?n4)
    case' y4 =>
     refine x_callR T.en_86 (exDepth t m ht hm htm) ?_ ⟨⟨ht, (by first | rfl | (simp only [hOf, hset, hpost, htm, hmt, if_true, if_false, not_false_eq_true]; first | done | rfl))⟩, ⟨hm, (by first | rfl | (simp only [hOf, hset, hpost, htm, hmt, if_true, if_false, not_false_eq_true]; first | done | rfl))⟩, trivial⟩
   case' n3 =>
    refine brF ?_
  case' n2 =>
   refine brF ?_
   refine brF ?_
 case' n1 =>
  refine brF ?_
  refine brF ?_
  refine brF ?_
 all_goals (refine ⟨?_, ⟨⟨ht, (by first | rfl | (simp only [hOf, hset, hpost, htm, hmt, if_true, if_false, not_false_eq_true]; first | done | rfl))⟩, ⟨hm, (by first | rfl | (simp only [hOf, hset, hpost, htm, hmt, if_true, if_false, not_false_eq_true]; first | done | rfl))⟩, trivial⟩⟩; simp only [fitsL, fits, C.asD, and_true] <;> (first | rfl | (exfalso; simp_all; done)))
end Go.Vm
end
section
namespace Go.Vm
set_option linter.unusedVariables false
set_option linter.unusedSimpArgs false

/-- Edges that come to a tree, one behind the other. -/
def growF (E l : List EdgeD) : List EdgeD := l.foldl (fun E e => (putE E e).1) E
theorem growF_take {E l : List EdgeD} {k : Nat} {e : EdgeD} (h : l[k]? = some e) : growF E (l.take (k + 1)) = (putE (growF E (l.take k)) e).1 := by
  unfold growF
  rw [List.take_add_one, h, List.foldl_append]; rfl
theorem growF_good : ∀ {l E : List EdgeD}, Good E → E.length ≤ 40 → (∀ e ∈ l, okX e.lens) → Good (growF E l) ∧ (growF E l).length ≤ 40
  | [], E, h1, h2, _ => ⟨h1, h2⟩
  | e :: l, E, h1, h2, h3 => growF_good (l := l) (h1.put (h3 e (List.mem_cons_self ..))) (put_len h2) (fun x hx => h3 x (List.mem_cons_of_mem _ hx))
theorem edgeOf_more {E : List EdgeD} {e x : EdgeD} {id : TagD} (h : edgeOf E id = some x) : edgeOf (E ++ [e]) id = some x := by
  unfold edgeOf at h ⊢
  rw [List.find?_append, h]; rfl
theorem comes_stays {E : List EdgeD} {e : EdgeD} : ∀ (n : Nat) (id : TagD), doneB (comes n E id) = true → comes n (E ++ [e]) id = comes n E id
  | 0, _, _ => rfl
  | n + 1, id, h => by
    by_cases h0 : id = noTag
    · subst h0; rw [comes_root, comes_root]
    · cases he : edgeOf E id with
      | none => rw [comes_none h0 he] at h; simp [doneB] at h
      | some x =>
        rw [comes_succ h0 he] at h
        rw [comes_succ h0 he, comes_succ h0 (edgeOf_more he), comes_stays n x.parent (step_done h)]
theorem came_stays {E : List EdgeD} {e : EdgeD} {id : TagD} (h : doneB (cameOf E id) = true) : cameOf (E ++ [e]) id = cameOf E id := by
  have h1 := comes_stays (e := e) (E.length + 1) id h
  unfold cameOf at h ⊢
  rw [← h1] at h
  rw [comes_full h, h1]
theorem put_stays {E : List EdgeD} {e : EdgeD} {id : TagD} (h : doneB (cameOf E id) = true) : cameOf (putE E e).1 id = cameOf E id := by
  unfold putE
  split
  · rfl
  · split
    · split <;> rfl
    · split
      · rfl
      · exact came_stays h
theorem growF_stays : ∀ {l E : List EdgeD} {id : TagD}, doneB (cameOf E id) = true → cameOf (growF E l) id = cameOf E id
  | [], _, _, _ => rfl
  | e :: l, E, id, h => by
    have h1 := put_stays (e := e) h
    have h2 := growF_stays (l := l) (E := (putE E e).1) (id := id) (by rw [h1]; exact h)
    exact h2.trans h1
theorem put_more {E : List EdgeD} {e : EdgeD} : E.length ≤ (putE E e).1.length := by
  unfold putE
  split
  · exact Nat.le_refl _
  · split
    · split <;> exact Nat.le_refl _
    · split
      · exact Nat.le_refl _
      · simp
theorem growF_more : ∀ {l E : List EdgeD}, E.length ≤ (growF E l).length
  | [], _ => Nat.le_refl _
  | e :: l, E => Nat.le_trans put_more (growF_more (l := l) (E := (putE E e).1))
theorem live_state {E : List EdgeD} {id : TagD} (h : id ∈ noTag :: ((sortE E).filter fun e => decide ((cameOf E e.id).1 = 2)).map (·.id)) : (cameOf E id).1 = 2 := by
  rcases List.mem_cons.1 h with rfl | h
  · rw [came_root]
  · obtain ⟨e, he, rfl⟩ := List.mem_map.1 h
    simpa using (List.mem_filter.1 he).2
theorem live_done {r : Came} (h : r.1 = 2) : doneB r = true := by simp [doneB, h]
end Go.Vm
end
section
namespace Go.Vm
set_option linter.unusedVariables false
set_option linter.unusedSimpArgs false

abbrev UniqE (l : List EdgeD) : Prop := l.Pairwise fun a b => ¬ a.id = b.id
theorem uniq_one {l : List EdgeD} (hu : UniqE l) {a b : EdgeD} (ha : a ∈ l) (hb : b ∈ l) (h : a.id = b.id) : a = b := by
  have h1 := edge_of_mem hu ha
  have h2 := edge_of_mem hu hb
  rw [h, h2] at h1
  exact (Option.some.inj h1).symm
theorem uniq_nodup {l : List EdgeD} (hu : UniqE l) : l.Nodup := hu.imp fun h e => h (by rw [e])
theorem sub_len {a b : List EdgeD} (ha : a.Nodup) (hs : ∀ e ∈ a, e ∈ b) (hb : b.Nodup) : a.length ≤ b.length := by
  have hp : a.Perm (b.filter fun e => decide (e ∈ a)) := (List.perm_ext_iff_of_nodup ha (hb.filter _)).2 fun e => by
    rw [List.mem_filter, decide_eq_true_eq]
    exact ⟨fun h => ⟨hs e h, h⟩, fun h => h.2⟩
  rw [hp.length_eq]
  exact List.length_filter_le _ _
/-- One edge of the list, put into a tree of edges of the list. -/
theorem put_of {l E : List EdgeD} {x : EdgeD} (hu : UniqE l) (hl : l.length ≤ 40) (hE : ∀ e ∈ E, e ∈ l) (hg : Good E) (hx : x ∈ l) :
    (edgeB x = false ∧ putE E x = (E, 5)) ∨ (edgeB x = true ∧ x ∈ E ∧ putE E x = (E, 7)) ∨ (edgeB x = true ∧ x ∉ E ∧ putE E x = (E ++ [x], 0)) := by
  cases hb : edgeB x with
  | false => exact .inl ⟨rfl, put_e5 hb⟩
  | true =>
    refine .inr ?_
    cases hf : edgeOf E x.id with
    | some f =>
      obtain ⟨h1, h2⟩ := edge_mem hf
      obtain rfl := uniq_one hu (hE f h1) hx h2
      exact .inl ⟨rfl, h1, put_e7 hb hf rfl⟩
    | none =>
      have hn : x ∉ E := fun h => edgeOf_none hf x h rfl
      refine .inr ⟨rfl, hn, put_e0 hb hf ?_⟩
      have := sub_len (a := x :: E) (b := l) (List.nodup_cons.2 ⟨hn, uniq_nodup hg.uniq⟩) (fun e he => by
        rcases List.mem_cons.1 he with rfl | he
        · exact hx
        · exact hE e he) (uniq_nodup hu)
      rw [List.length_cons] at this
      omega
theorem put_sub {l E : List EdgeD} {x : EdgeD} (hE : ∀ e ∈ E, e ∈ l) (hx : x ∈ l) : ∀ e ∈ (putE E x).1, e ∈ l := by
  unfold putE
  split
  · exact hE
  · split
    · split <;> exact hE
    · split
      · exact hE
      · intro e he
        rcases List.mem_append.1 he with he | he
        · exact hE e he
        · rw [List.mem_singleton.1 he]; exact hx
theorem put_mem {l E : List EdgeD} {x : EdgeD} (hu : UniqE l) (hl : l.length ≤ 40) (hE : ∀ e ∈ E, e ∈ l) (hg : Good E) (hx : x ∈ l) (e : EdgeD) : e ∈ (putE E x).1 ↔ e ∈ E ∨ (e = x ∧ edgeB e = true) := by
  rcases put_of hu hl hE hg hx with ⟨h1, h2⟩ | ⟨h1, h2, h3⟩ | ⟨h1, h2, h3⟩
  · rw [h2]
    refine ⟨.inl, fun h => h.elim id fun ⟨h3, h4⟩ => ?_⟩
    rw [h3, h1] at h4; cases h4
  · rw [h3]
    exact ⟨.inl, fun h => h.elim id fun ⟨h4, _⟩ => by rw [h4]; exact h2⟩
  · rw [h3]
    simp only [List.mem_append, List.mem_singleton]
    exact ⟨fun h => h.imp id fun h4 => ⟨h4, by rw [h4]; exact h1⟩, fun h => h.imp id fun h4 => h4.1⟩
theorem growF_mem {l : List EdgeD} (hu : UniqE l) (hl : l.length ≤ 40) (hok : ∀ e ∈ l, okX e.lens) : ∀ {w E : List EdgeD}, (∀ e ∈ w, e ∈ l) → (∀ e ∈ E, e ∈ l) → Good E → ∀ e, e ∈ growF E w ↔ e ∈ E ∨ (e ∈ w ∧ edgeB e = true)
  | [], E, _, _, _, e => by simp [growF]
  | x :: w, E, hw, hE, hg, e => by
    have hx := hw x (List.mem_cons_self ..)
    have h1 := growF_mem hu hl hok (w := w) (E := (putE E x).1) (fun y hy => hw y (List.mem_cons_of_mem _ hy)) (put_sub hE hx) (hg.put (hok x hx)) e
    have h2 : growF E (x :: w) = growF (putE E x).1 w := rfl
    rw [h2, h1, put_mem hu hl hE hg hx, List.mem_cons]
    constructor
    · rintro ((h | ⟨h, k⟩) | ⟨h, k⟩)
      · exact .inl h
      · exact .inr ⟨.inl h, k⟩
      · exact .inr ⟨.inr h, k⟩
    · rintro (h | ⟨h | h, k⟩)
      · exact .inl (.inl h)
      · exact .inl (.inr ⟨h, k⟩)
      · exact .inr ⟨h, k⟩
theorem growF_sub {l : List EdgeD} : ∀ {w E : List EdgeD}, (∀ e ∈ w, e ∈ l) → (∀ e ∈ E, e ∈ l) → ∀ e ∈ growF E w, e ∈ l
  | [], E, _, hE => hE
  | x :: w, E, hw, hE => growF_sub (w := w) (E := (putE E x).1) (fun y hy => hw y (List.mem_cons_of_mem _ hy)) (put_sub hE (hw x (List.mem_cons_self ..)))
/-- Whatever names all edges of the list makes the same edges. -/
theorem growF_perm {l w v : List EdgeD} (hu : UniqE l) (hl : l.length ≤ 40) (hok : ∀ e ∈ l, okX e.lens) (hw : ∀ e, e ∈ w ↔ e ∈ l) (hv : ∀ e, e ∈ v ↔ e ∈ l) : (growF [] w).Perm (growF [] v) := by
  have gw := (growF_good (l := w) good_empty (by simp) (fun e he => hok e ((hw e).1 he))).1
  have gv := (growF_good (l := v) good_empty (by simp) (fun e he => hok e ((hv e).1 he))).1
  refine (List.perm_ext_iff_of_nodup (uniq_nodup gw.uniq) (uniq_nodup gv.uniq)).2 fun e => ?_
  rw [growF_mem hu hl hok (fun e he => (hw e).1 he) (by simp) good_empty, growF_mem hu hl hok (fun e he => (hv e).1 he) (by simp) good_empty, hw, hv]
/-- The second time it is known, or not right. -/
theorem put_again {l E : List EdgeD} {x : EdgeD} (hu : UniqE l) (hl : l.length ≤ 40) (hE : ∀ e ∈ E, e ∈ l) (hg : Good E) (hx : x ∈ l) (hok : okX x.lens) : (putE (putE E x).1 x).2 = 7 ∨ (putE (putE E x).1 x).2 = 5 := by
  rcases put_of hu hl hE hg hx with ⟨h1, h2⟩ | ⟨h1, h2, h3⟩ | ⟨h1, h2, h3⟩
  · rw [h2]; simp only; rw [h2]; exact .inr rfl
  · rw [h3]; simp only; rw [h3]; exact .inl rfl
  · have hg2 := hg.put (e := x) hok
    rw [h3] at hg2
    rw [h3]; simp only
    rcases put_of hu hl (E := E ++ [x]) (fun e he => by
      rcases List.mem_append.1 he with he | he
      · exact hE e he
      · rw [List.mem_singleton.1 he]; exact hx) hg2 hx with ⟨k1, k2⟩ | ⟨k1, k2, k3⟩ | ⟨k1, k2, k3⟩
    · rw [h1] at k1; cases k1
    · rw [k3]; exact .inl rfl
    · exact absurd (List.mem_append_right _ (List.mem_singleton.2 rfl)) k2
/-- The place at which an edge stands when the list is turned. -/
def ixT (turn n i : Int) : Int := (turn.tmod n + i).tmod n
theorem ixT_nat {T n i : Nat} : ixT T n i = ((((T % n) + i) % n : Nat) : Int) := by
  unfold ixT
  rw [← Int.ofNat_tmod, ← Int.natCast_add, ← Int.ofNat_tmod]
theorem ixT_back {T n k : Nat} (hk : k < n) : ∃ i, i < n ∧ ((T % n) + i) % n = k := by
  have hr : T % n < n := Nat.mod_lt _ (by omega)
  refine ⟨(k + (n - T % n)) % n, Nat.mod_lt _ (by omega), ?_⟩
  rw [Nat.add_mod_mod, show T % n + (k + (n - T % n)) = k + n by omega, Nat.add_mod_right, Nat.mod_eq_of_lt hk]
theorem liveE_perm {E F : List EdgeD} (hu : UniqE E) (hp : E.Perm F) : noTag :: ((sortE E).filter fun e => decide ((cameOf E e.id).1 = 2)).map (·.id) = noTag :: ((sortE F).filter fun e => decide ((cameOf F e.id).1 = 2)).map (·.id) := by
  rw [sortE_eq hu hp]
  congr 2
  refine List.filter_congr fun e _ => ?_
  rw [came_perm hu hp]
theorem pair_next {l : List EdgeD} {k : Nat} {p : EdgeD} (hp : l[k]? = some p) (h : UniqE (l.take k)) (hn : edgeOf (l.take k) p.id = none) : UniqE (l.take (k + 1)) := by
  rw [List.take_add_one, hp]
  refine List.pairwise_append.2 ⟨h, List.pairwise_singleton .., fun a ha b hb => ?_⟩
  rw [Option.toList_some, List.mem_singleton] at hb
  subst hb
  exact edgeOf_none hn a ha
theorem growF_two {E w : List EdgeD} {p : EdgeD} : growF E (w ++ [p, p]) = (putE (putE (growF E w) p).1 p).1 := by
  unfold growF
  rw [List.foldl_append]; rfl
end Go.Vm
end
section
namespace Go.Vm
open Go.RowKit Go.Proofs
set_option linter.unusedVariables false
set_option linter.unusedSimpArgs false
set_option maxRecDepth 10000

theorem live_len {E : List EdgeD} (h : E.length ≤ 1000) : (liveE E).length ≤ 1001 := by
  unfold liveE
  rw [List.length_cons, List.length_map]
  have := List.length_filter_le (fun e => decide ((cameOf E e.id).1 = 2)) (sortE E)
  rw [sortE_len] at this
  omega

theorem put_next {h : Hp} {t m : Nat} {a x y : S} (htm : ¬ t = m) (ha : h t = a) : hset h m y = hpost (hset h m x) [(t, a), (m, y)] := by
  funext u
  simp only [hpost, hset]
  by_cases h1 : u = m
  · subst h1; have : ¬ u = t := fun e => htm e.symm; simp [this]
  · by_cases h2 : u = t
    · subst h2; simp [h1, ha]
    · simp [h1, h2]

theorem pr_remN {P : Program} {t : TypeId} {x y : Operand} {k : IntKind} {a b : Nat} (h : ¬ b = 0) : pureRun P (do eqGuard .rem t x y (.int k (a : Int)) (.int k (b : Int)); binOp .rem t (.int k (a : Int)) (.int k (b : Int)) : Sem Value) = some (.int k ((a % b : Nat) : Int)) := by
  have e : Op.intDiv .rem k (a : Int) (b : Int) = pure (.int k ((a % b : Nat) : Int)) := by unfold Op.intDiv; rw [if_neg (by omega)]; rfl
  cases k <;> (show pureRun P (Op.intDiv .rem _ (a : Int) (b : Int)) = _; rw [e]; rfl)
theorem put_two {h : Hp} {t m : Nat} {a x y z : S} (htm : ¬ t = m) (ha : h t = a) : hset h m z = hpost (hpost (hset h m x) [(t, a), (m, y)]) [(t, a), (m, z)] := by
  funext u
  simp only [hpost, hset]
  by_cases h1 : u = m
  · subst h1; have : ¬ u = t := fun e => htm e.symm; simp [this]
  · by_cases h2 : u = t
    · subst h2; simp [h1, ha]
    · simp [h1, h2]
theorem turn_next {l w : List EdgeD} {T i j : Nat} {p : EdgeD} (hi : ((l.length : Nat) : Int) - 1 - ((j : Nat) : Int) = (i : Int)) (hp : l[((T % l.length) + i) % l.length]? = some p) (hv : ∀ i, l.length - j ≤ i → i < l.length → ∀ e, l[((T % l.length) + i) % l.length]? = some e → e ∈ w) :
    ∀ i, l.length - (j + 1) ≤ i → i < l.length → ∀ e, l[((T % l.length) + i) % l.length]? = some e → e ∈ w ++ [p, p] := by
  intro i2 h1 h2 e he
  by_cases h3 : l.length - j ≤ i2
  · exact List.mem_append_left _ (hv i2 h3 h2 e he)
  · have : i2 = i := by omega
    subst this
    rw [hp] at he
    injection he with he
    subst he
    exact List.mem_append_right _ (by simp)
theorem turn_all {l w : List EdgeD} {T j : Nat} (hv : ∀ i, l.length - j ≤ i → i < l.length → ∀ e, l[((T % l.length) + i) % l.length]? = some e → e ∈ w) (hj : l.length ≤ j) {e : EdgeD} (he : e ∈ l) : e ∈ w := by
  obtain ⟨k, hk, hke⟩ := List.mem_iff_getElem.1 he
  obtain ⟨i, h1, h2⟩ := ixT_back (T := T) hk
  exact hv i (by omega) h1 e (by rw [h2, List.getElem?_eq_getElem hk, hke])

set_option maxHeartbeats 1000000 in
theorem treeOrders_any (l : List EdgeD) (turn : Int) : ContractH Try.prog 5 [.row (l.map eD), .sc (.int .i64 turn)] [(1000000, .free), (1000001, .free), (1000002, .free), (1000003, .free), (1000004, .free), (1000005, .free), (1000006, .free), (1000007, .free)] [.d (.sc (.bool (true)))] [] := by
 refine T.fnH [18, 42, 43, 55, 77, 83, 93, 95, 100, 102, 108, 110, 116, 118, 135, 145, 164, 171, 2091] Try.func5 ?_ (by simp only [List.forall_mem_cons, List.not_mem_nil, false_implies, implies_true, and_true]; decide) (by simp [thing]) (by simp [thing])
 refine x_callH T.en_26 (awake_any 1000000 1000001 (by decide) (by decide) (by decide)) ?_ ⟨⟨by decide, rfl⟩, ⟨by decide, rfl⟩, trivial⟩
 refine brF ?_
 refine x_call T.en_27 (refHeavy_any l 40 (by decide)) ?_
 refine br (fun hg2 => ?y2) (fun hg2 => ?n2)
 case' y2 =>
  refine brT ?_
 case' n2 =>
  have hh1 : heavyE 40 l = false := by simpa using hg2
  obtain ⟨hl40, hok⟩ := heavyE_ok (m := 40) hh1
  refine br (fun hc4 => ?y4) (fun hc4 => ?n4)
  case' n4 =>
   obtain ⟨q, rfl⟩ : ∃ q : Nat, turn = (q : Int) := ⟨turn.toNat, by omega⟩
   refine xloopR (fb := [18, 42, 43, 55, 77, 83, 93, 95, 100, 102, 108, 110, 116, 118, 135, 145, 164, 171, 2091]) T.ok (Nat.le_of_ble_eq_true rfl) [0, 1] (fun (k : Nat) => [(5, .c (.d (.sc (.int .i64 (k : Nat)))))]) (fun k => k ≤ l.length ∧ UniqE (l.take k)) (fun k => l.length - k) 0 ⟨Nat.zero_le _, by simp⟩ (x_ent (by first | rfl | (simp only [Tr.get]; simp; done)) trivial) ?_
   rintro k ⟨hk, hU⟩
   refine x_len ?_
   refine br (fun hc5 => ?y5) (fun hc5 => ?n5)
   case' y5 =>
    obtain ⟨p, hp⟩ := elem_at hc5
    have hkl := lt_len hp
    refine And.intro ⟨T.mixed, by decide +kernel⟩ ?_
    first | refine x_bnd ?_ | refine x_bndI ?_
    refine x_row ?_ (by first | exact eDs_wide _ | exact eD_wide | exact tDs_wide _ | exact tD_wide | (simp [D.cells])) (hy := by first | exact snoc_map | exact one_map | exact List.map_take.symm | exact slice_drop | exact rfl | rfl)
    first | refine x_ix (by first | exact mapAt hp | exact at_ix hp hpa) ?_ | refine x_ixI (by first | exact mapAt hp | exact at_ix hp hpa) ?_
    refine x_call T.en_28 (refAt_any (l.take k) p.id (by rw [List.length_take]; omega)) ?_
    refine br (fun hc6 => ?y6) (fun hc6 => ?n6)
    case' n6 =>
     have hno := atE_miss (E := l.take k) (id := p.id) (by omega)
     first | refine x_inc ?_ | refine x_add ?_ | refine x_bin rfl rfl ?_
     refine x_rnd (k + 1) ⟨lt_len hp, pair_next hp hU hno⟩ (by (try dsimp only); have := lt_len hp; omega) rfl (x_ent (by first | rfl | (simp only [Tr.get]; simp; done)) trivial) rfl
   case' n5 =>
    have hu : UniqE l := by rw [List.take_of_length_le (past_end hc5)] at hU; exact hU
    refine x_callH T.en_29 (new_any 1000002 1000003 (by decide) (by decide) (by decide)) ?_ ⟨⟨by decide, rfl⟩, ⟨by decide, rfl⟩, trivial⟩
    refine x_callH T.en_29 (new_any 1000004 1000005 (by decide) (by decide) (by decide)) ?_ ⟨⟨by decide, rfl⟩, ⟨by decide, rfl⟩, trivial⟩
    refine xloop (fb := [18, 42, 43, 55, 77, 83, 93, 95, 100, 102, 108, 110, 116, 118, 135, 145, 164, 171, 2091]) T.ok (Nat.le_of_ble_eq_true rfl) [0, 1, 6, 7] (fun (k : Nat) => [(8, .c (.d (.sc (.int .i64 (k : Nat)))))]) (fun k => hset (hpost (hpost (hpost (hOf [(1000000, .free), (1000001, .free), (1000002, .free), (1000003, .free), (1000004, .free), (1000005, .free), (1000006, .free), (1000007, .free)]) [(1000000, .obj [.mp 1000001]), (1000001, .mapo (ents (nodesOf [exB, exA])))]) [(1000002, .obj [.mp 1000003]), (1000003, .mapo (ents (nodesOf [])))]) [(1000004, .obj [.mp 1000005]), (1000005, .mapo (ents (nodesOf [])))]) 1000003 (.mapo (ents (nodesOf (growF [] (l.take k)))))) (fun k => k ≤ l.length) (fun k => l.length - k) 0 (Nat.zero_le _) (x_ent (by first | rfl | (simp only [Tr.get]; simp; done)) trivial) (hset_self rfl) ?_
    rintro k hk2
    have hggA := growF_good (l := l.take k) good_empty (by simp) (fun e he => hok e (List.mem_of_mem_take he))
    have hgA := hggA.1
    have hEA := hggA.2
    refine x_len ?_
    refine br (fun hc7 => ?y7) (fun hc7 => ?n7)
    case' y7 =>
     obtain ⟨p, hp⟩ := elem_at hc7
     have hkl := lt_len hp
     have hoX := hok p (List.mem_of_getElem? hp)
     first | refine x_ix (by first | exact mapAt hp | exact at_ix hp hpa) ?_ | refine x_ixI (by first | exact mapAt hp | exact at_ix hp hpa) ?_
     refine x_callH T.en_30 (put_any 1000002 1000003 (by decide) (by decide) (by decide) (growF [] (l.take k)) p (by omega) hgA hoX) ?_ ⟨⟨by decide, rfl⟩, ⟨by decide, rfl⟩, trivial⟩
     first | refine x_inc ?_ | refine x_add ?_ | refine x_bin rfl rfl ?_
     refine x_rnd (k + 1) (lt_len hp) (by (try dsimp only); have := lt_len hp; omega) rfl (x_ent (by first | rfl | (simp only [Tr.get]; simp; done)) trivial) (by rw [growF_take hp]; exact put_next (by decide) rfl)
    case' n7 =>
     have hend : l.take k = l := List.take_of_length_le (past_end hc7)
     refine x_len ?_
     first | refine x_sub ?_ | refine x_bin rfl rfl ?_
     refine xloop (fb := [18, 42, 43, 55, 77, 83, 93, 95, 100, 102, 108, 110, 116, 118, 135, 145, 164, 171, 2091]) T.ok (Nat.le_of_ble_eq_true rfl) [0, 1, 6, 7] (fun (s : Nat × List EdgeD) => [(9, .c (.d (.sc (.int .i64 (((l.length : Nat) : Int) - 1 - ((s.1 : Nat) : Int))))))]) (fun s => hset (hset (hpost (hpost (hpost (hOf [(1000000, .free), (1000001, .free), (1000002, .free), (1000003, .free), (1000004, .free), (1000005, .free), (1000006, .free), (1000007, .free)]) [(1000000, .obj [.mp 1000001]), (1000001, .mapo (ents (nodesOf [exB, exA])))]) [(1000002, .obj [.mp 1000003]), (1000003, .mapo (ents (nodesOf [])))]) [(1000004, .obj [.mp 1000005]), (1000005, .mapo (ents (nodesOf [])))]) 1000003 (.mapo (ents (nodesOf (growF [] (l.take k)))))) 1000005 (.mapo (ents (nodesOf (growF [] s.2))))) (fun s => s.1 ≤ l.length ∧ (∀ e ∈ s.2, e ∈ l) ∧ ∀ i, l.length - s.1 ≤ i → i < l.length → ∀ e, l[((q % l.length) + i) % l.length]? = some e → e ∈ s.2) (fun s => l.length - s.1) (0, []) ⟨Nat.zero_le _, by simp, fun i h1 h2 => by (try dsimp only at h1); omega⟩ (x_ent (by first | rfl | (simp only [Tr.get]; simp; done)) trivial) (hset_self rfl) ?_
     rintro s ⟨hj, hw, hv⟩
     have hggB := growF_good (l := s.2) good_empty (by simp) (fun e he => hok e (hw e he))
     have hgB := hggB.1
     have hEB := hggB.2
     have hsub2 := growF_sub (w := s.2) (E := []) hw (by simp)
     refine br (fun hc8 => ?y8) (fun hc8 => ?n8)
     case' y8 =>
      obtain ⟨i, hi⟩ : ∃ i : Nat, ((l.length : Nat) : Int) - 1 - ((s.1 : Nat) : Int) = (i : Int) := ⟨l.length - 1 - s.1, by omega⟩
      have hln : 0 < l.length := by omega
      obtain ⟨p, hp⟩ : ∃ p, l[((q % l.length) + i) % l.length]? = some p := ⟨_, List.getElem?_eq_getElem (Nat.mod_lt _ hln)⟩
      have hpl := List.mem_of_getElem? hp
      have hoX := hok p hpl
      have hkl := lt_len hp
      have hqm := Nat.mod_lt q hln
      have hgP := hgB.put (e := p) hoX
      have hEP := put_len (e := p) hEB
      refine x_len ?_
      refine x_bin (r := .int .i64 ((q % l.length : Nat) : Int)) (pr_remN (by omega)) rfl ?_
      refine x_add (c := ((q % l.length + i : Nat) : Int)) ?_ (h := by rw [show ((q % l.length : Nat) : Int) + (((l.length : Nat) : Int) - 1 - ((s.1 : Nat) : Int)) = ((q % l.length + i : Nat) : Int) by omega]; exact IntWalk.i64_in _ (by omega))
      refine x_len ?_
      refine x_bin (r := .int .i64 (((q % l.length + i) % l.length : Nat) : Int)) (pr_remN (by omega)) rfl ?_
      first | refine x_ix (by first | exact mapAt hp | exact at_ix hp hpa) ?_ | refine x_ixI (by first | exact mapAt hp | exact at_ix hp hpa) ?_
      refine x_callH T.en_30 (put_any 1000004 1000005 (by decide) (by decide) (by decide) (growF [] s.2) p (by omega) hgB hoX) ?_ ⟨⟨by decide, rfl⟩, ⟨by decide, rfl⟩, trivial⟩
      first | refine x_ix (by first | exact mapAt hp | exact at_ix hp hpa) ?_ | refine x_ixI (by first | exact mapAt hp | exact at_ix hp hpa) ?_
      refine x_callH T.en_30 (put_any 1000004 1000005 (by decide) (by decide) (by decide) (putE (growF [] s.2) p).1 p (by omega) hgP hoX) ?_ ⟨⟨by decide, rfl⟩, ⟨by decide, rfl⟩, trivial⟩
      refine br (fun hg9 => ?y9) (fun hg9 => ?n9)
      case' y9 =>
       have hn7 := hg9
       refine br (fun hc10 => ?y10) (fun hc10 => ?n10)
       case' y10 =>
        exact (put_again hu hl40 hsub2 hgB hpl hoX).elim (fun e => absurd e hn7) (fun e => absurd e hc10)
       case' n10 =>
        first | refine x_sub ?_ | refine x_bin rfl rfl ?_
        refine x_rnd (s.1 + 1, s.2 ++ [p, p]) ⟨by (try dsimp only); omega, fun e he => (List.mem_append.1 he).elim (hw e) (fun h => by simp at h; rw [h]; exact hpl), turn_next hi hp hv⟩ (by (try dsimp only); omega) rfl (x_ent (by simp only [Tr.get]; first | rfl | (simp; done) | (simp; omega)) trivial) (by (try dsimp only); rw [growF_two]; exact put_two (by decide) rfl)
      case' n9 =>
       refine brF ?_
       first | refine x_sub ?_ | refine x_bin rfl rfl ?_
       refine x_rnd (s.1 + 1, s.2 ++ [p, p]) ⟨by (try dsimp only); omega, fun e he => (List.mem_append.1 he).elim (hw e) (fun h => by simp at h; rw [h]; exact hpl), turn_next hi hp hv⟩ (by (try dsimp only); omega) rfl (x_ent (by simp only [Tr.get]; first | rfl | (simp; done) | (simp; omega)) trivial) (by (try dsimp only); rw [growF_two]; exact put_two (by decide) rfl)
     case' n8 =>
      have hall : ∀ e, e ∈ s.2 ↔ e ∈ l := fun e => ⟨hw e, fun he => turn_all hv (by omega) he⟩
      have hper : (growF [] (l.take k)).Perm (growF [] s.2) := by rw [hend]; exact growF_perm hu hl40 hok (fun _ => Iff.rfl) hall
      have hSE := sortE_eq hgA.uniq hper
      have hLE : liveE (growF [] (l.take k)) = liveE (growF [] s.2) := liveE_perm hgA.uniq hper
      refine x_callE T.en_31 (copy_any 1000002 1000003 1000006 1000007 (by decide) (by decide) (by decide) (by decide) (by decide) (by decide) (by decide) (by decide) (by decide) (by decide) (nodesOf (growF [] (l.take k))) (nodes_uniq hgA)) ?_ ⟨⟨by decide, rfl⟩, ⟨by decide, rfl⟩, ⟨by decide, rfl⟩, ⟨by decide, rfl⟩, trivial⟩
      rintro l2 hl2
      refine x_callR T.en_33 (edgesL 1000002 1000003 (by decide) (by decide) (by decide) (growF [] (l.take k)) hgA (by omega) (nodesOf (growF [] (l.take k))) (.refl _)) ?_ ⟨⟨by decide, rfl⟩, ⟨by decide, rfl⟩, trivial⟩
      refine x_callR T.en_33 (edgesL 1000004 1000005 (by decide) (by decide) (by decide) (growF [] s.2) hgB (by omega) (nodesOf (growF [] s.2)) (.refl _)) ?_ ⟨⟨by decide, rfl⟩, ⟨by decide, rfl⟩, trivial⟩
      refine x_call T.en_32 (refSameEdges_any _ _ (by rw [sortE_len]; omega) (fun e he => hgA.ok e ((sortE_perm _).mem_iff.1 he))) ?_
      refine br (fun hg12 => ?y12) (fun hg12 => ?n12)
      case' y12 =>
       exact absurd hSE hg12
      case' n12 =>
       refine x_callR T.en_33 (edgesL 1000002 1000003 (by decide) (by decide) (by decide) (growF [] (l.take k)) hgA (by omega) (nodesOf (growF [] (l.take k))) (.refl _)) ?_ ⟨⟨by decide, rfl⟩, ⟨by decide, rfl⟩, trivial⟩
       refine x_callR T.en_33 (edgesL 1000006 1000007 (by decide) (by decide) (by decide) (growF [] (l.take k)) hgA (by omega) l2 hl2) ?_ ⟨⟨by decide, rfl⟩, ⟨by decide, rfl⟩, trivial⟩
       refine x_call T.en_32 (refSameEdges_any _ _ (by rw [sortE_len]; omega) (fun e he => hgA.ok e ((sortE_perm _).mem_iff.1 he))) ?_
       refine br (fun hg13 => ?y13) (fun hg13 => ?n13)
       case' y13 =>
        exact absurd rfl hg13
       case' n13 =>
        refine x_callR T.en_35 (liveL 1000002 1000003 (by decide) (by decide) (by decide) (growF [] (l.take k)) hgA (by omega) (nodesOf (growF [] (l.take k))) (.refl _)) ?_ ⟨⟨by decide, rfl⟩, ⟨by decide, rfl⟩, trivial⟩
        refine x_callR T.en_35 (liveL 1000004 1000005 (by decide) (by decide) (by decide) (growF [] s.2) hgB (by omega) (nodesOf (growF [] s.2)) (.refl _)) ?_ ⟨⟨by decide, rfl⟩, ⟨by decide, rfl⟩, trivial⟩
        refine x_call T.en_34 (refSameTags_any _ _ (live_len (by omega))) ?_
        refine br (fun hg14 => ?y14) (fun hg14 => ?n14)
        case' y14 =>
         exact absurd hLE hg14
        case' n14 =>
         refine x_callR T.en_35 (liveL 1000002 1000003 (by decide) (by decide) (by decide) (growF [] (l.take k)) hgA (by omega) (nodesOf (growF [] (l.take k))) (.refl _)) ?_ ⟨⟨by decide, rfl⟩, ⟨by decide, rfl⟩, trivial⟩
         refine x_callR T.en_35 (liveL 1000006 1000007 (by decide) (by decide) (by decide) (growF [] (l.take k)) hgA (by omega) l2 hl2) ?_ ⟨⟨by decide, rfl⟩, ⟨by decide, rfl⟩, trivial⟩
         refine x_call T.en_34 (refSameTags_any _ _ (live_len (by omega))) ?_
         refine br (fun hc15 => ?y15) (fun hc15 => ?n15)
         case' y15 =>
          exact absurd rfl hc15
         case' n15 =>
          refine xloopR (fb := [18, 42, 43, 55, 77, 83, 93, 95, 100, 102, 108, 110, 116, 118, 135, 145, 164, 171, 2091]) T.ok (Nat.le_of_ble_eq_true rfl) [0, 6, 7, 12] (fun (j : Nat) => [(13, .c (.d (.sc (.int .i64 (j : Nat)))))]) (fun j => j ≤ l.length) (fun j => l.length - j) 0 (Nat.zero_le _) (x_ent (by first | rfl | (simp only [Tr.get]; simp; done)) trivial) ?_
          rintro j hj2
          refine x_len ?_
          refine br (fun hc16 => ?y16) (fun hc16 => ?n16)
          case' y16 =>
           obtain ⟨p, hp⟩ := elem_at hc16
           have hkl := lt_len hp
           have hst : cameOf (growF [] (l.take k)) p.id = cameOf (growF [] s.2) p.id := came_perm hgA.uniq hper p.id
           first | refine x_ix (by first | exact mapAt hp | exact at_ix hp hpa) ?_ | refine x_ixI (by first | exact mapAt hp | exact at_ix hp hpa) ?_
           refine x_callR T.en_36 (schemaL 1000002 1000003 (by decide) (by decide) (by decide) (growF [] (l.take k)) hgA (by omega) (nodesOf (growF [] (l.take k))) (.refl _) p.id) ?_ ⟨⟨by decide, rfl⟩, ⟨by decide, rfl⟩, trivial⟩
           first | refine x_ix (by first | exact mapAt hp | exact at_ix hp hpa) ?_ | refine x_ixI (by first | exact mapAt hp | exact at_ix hp hpa) ?_
           refine x_callR T.en_36 (schemaL 1000004 1000005 (by decide) (by decide) (by decide) (growF [] s.2) hgB (by omega) (nodesOf (growF [] s.2)) (.refl _) p.id) ?_ ⟨⟨by decide, rfl⟩, ⟨by decide, rfl⟩, trivial⟩
           refine And.intro ⟨T.mixed, by decide +kernel⟩ ?_
           refine br (fun hg17 => ?y17) (fun hg17 => ?n17)
           case' y17 =>
            exact absurd (by rw [hst]) hg17
           case' n17 =>
            refine x_call T.en_37 (refSchemaSame_any _ _ (by rw [came_same]; exact okL_came hgA p.id)) ?_
            refine br (fun hg18 => ?y18) (fun hg18 => ?n18)
            case' y18 =>
             exact absurd (show (if (cameOf (growF [] (l.take k)) p.id).1 = 2 then (cameOf (growF [] (l.take k)) p.id).2.1 else []) = (if (cameOf (growF [] s.2) p.id).1 = 2 then (cameOf (growF [] s.2) p.id).2.1 else []) by rw [hst]) hg18
            case' n18 =>
             first | refine x_ix (by first | exact mapAt hp | exact at_ix hp hpa) ?_ | refine x_ixI (by first | exact mapAt hp | exact at_ix hp hpa) ?_
             refine q_callR T.en_38 (stateL 1000002 1000003 (by decide) (by decide) (by decide) (growF [] (l.take k)) hgA (by omega) (nodesOf (growF [] (l.take k))) (.refl _) p.id) ?_ ⟨⟨by decide, rfl⟩, ⟨by decide, rfl⟩, trivial⟩
             first | refine x_ix (by first | exact mapAt hp | exact at_ix hp hpa) ?_ | refine x_ixI (by first | exact mapAt hp | exact at_ix hp hpa) ?_
             refine q_callR T.en_38 (stateL 1000006 1000007 (by decide) (by decide) (by decide) (growF [] (l.take k)) hgA (by omega) l2 hl2 p.id) ?_ ⟨⟨by decide, rfl⟩, ⟨by decide, rfl⟩, trivial⟩
             refine br (fun hc19 => ?y19) (fun hc19 => ?n19)
             case' y19 =>
              exact absurd rfl hc19
             case' n19 =>
              first | refine x_inc ?_ | refine x_add ?_ | refine x_bin rfl rfl ?_
              refine x_rnd (j + 1) (lt_len hp) (by (try dsimp only); have := lt_len hp; omega) rfl (x_ent (by first | rfl | (simp only [Tr.get]; simp; done)) trivial) rfl
 all_goals (refine ⟨?_, trivial⟩; simp only [fitsL, fits, C.asD, and_true] <;> (rfl))
end Go.Vm
end
section
namespace Go.Vm
open Go.RowKit
set_option linter.unusedVariables false
set_option linter.unusedSimpArgs false

def allFrozen : Roles := fun _ => .frozen
theorem okFrozen (b off : Nat) : okAt allFrozen b off := trivial

section
variable {P : Program} {w : World}

/-- What reads as cells of a type is a value's of a kind. -/
def Cells (P : Program) (w : World) (t : TypeId) {α : Type} (enc : α → D) (ok : α → Prop) : Prop := ∀ es, Reads P w t es → ∃ x : α, Reps allFrozen w es (enc x).cells ∧ ok x

theorem cells_at : ∀ {ess : List (List Value)} {b off sz : Nat}, (∀ (i : Nat) (es : List Value), ess[i]? = some es → es.length = sz ∧ ∀ (j : Nat) (u : Value), es[j]? = some u → w.cell? ⟨b, off + i * sz + j, none⟩ = some u) →
    ess.flatten.length = ess.length * sz ∧ ∀ (j : Nat) (u : Value), ess.flatten[j]? = some u → w.cell? ⟨b, off + j, none⟩ = some u
  | [], b, off, sz, _ => ⟨by simp, by simp⟩
  | es :: ess, b, off, sz, h => by
    obtain ⟨h0, h1⟩ := h 0 es rfl
    obtain ⟨k0, k1⟩ := cells_at (ess := ess) (b := b) (off := off + sz) (sz := sz) (fun i es' hes => by
      obtain ⟨g0, g1⟩ := h (i + 1) es' (by simpa using hes)
      refine ⟨g0, fun j u hu => ?_⟩
      have := g1 j u hu
      rw [Nat.add_mul, Nat.one_mul] at this
      rw [show off + sz + i * sz + j = off + (i * sz + sz) + j by omega]; exact this)
    refine ⟨by rw [List.flatten_cons, List.length_append, k0, h0, List.length_cons, Nat.add_mul, Nat.one_mul, Nat.add_comm], fun j u hu => ?_⟩
    rw [List.flatten_cons] at hu
    by_cases hj : j < es.length
    · rw [List.getElem?_append_left hj] at hu
      have := h1 j u hu
      simpa using this
    · rw [List.getElem?_append_right (by omega)] at hu
      have := k1 (j - es.length) u hu
      rw [h0] at this
      rw [show off + j = off + sz + (j - sz) by omega]; exact this

theorem reps_flat {α : Type} {enc : α → D} : ∀ {ps : List (List Value × α)}, (∀ p ∈ ps, Reps allFrozen w p.1 (enc p.2).cells) → Reps allFrozen w (ps.map (·.1)).flatten (flat ((ps.map (·.2)).map enc))
  | [], _ => by simpa [flat] using Reps.nil
  | p :: ps, h => by
    have h1 := h p (List.mem_cons_self ..)
    have h2 := reps_flat (ps := ps) fun q hq => h q (List.mem_cons_of_mem _ hq)
    simp only [List.map_cons, List.flatten_cons, flat, List.flatMap_cons] at h2 ⊢
    exact h1.append h2

/-- A slice that is handed in. -/
theorem row_of {t e : TypeId} {sz : Nat} {α : Type} {enc : α → D} {ok : α → Prop} (ht : P.underlying t = some (.slice e)) (hsz : P.cellsOf e = sz) (h0 : 0 < sz) (hw : ∀ x, (enc x).cells.length = sz) (hel : Cells P w e enc ok) {a : Option Addr} {l c : Nat} (h : Reads P w t [.slice a l c]) :
    ∃ xs : List α, Rep allFrozen w (.slice a l c) (.row (xs.map enc)) ∧ ∀ x ∈ xs, ok x := by
  rcases h.slice ht with h | ⟨ad, len, cap, h, h1, h2, h3⟩
  · injection h with h; injection h with h4 h5 h6
    subst h4 h5 h6
    exact ⟨[], .nil (by simp [maxLen]), by simp⟩
  · injection h with h; injection h with h4 h5 h6
    subst h4 h5 h6
    rw [hsz] at h3
    obtain ⟨ps, hl, hp⟩ := choose_list (Q := fun i (p : List Value × α) => p.1.length = sz ∧ (∀ j (hj : j < p.1.length), w.cell? ((ad.add (i * sz)).add j) = some p.1[j]) ∧ Reps allFrozen w p.1 (enc p.2).cells ∧ ok p.2) l (fun i hi => by
      obtain ⟨es, q1, q2, q3⟩ := h3 i hi
      obtain ⟨x, hx, hok⟩ := hel es q3
      exact ⟨(es, x), q1, q2, hx, hok⟩)
    by_cases hz : l = 0
    · subst hz
      obtain rfl : ps = [] := List.length_eq_zero_iff.1 hl
      exact ⟨[], .nil h2, by simp⟩
    · have hlt : 0 < ps.length := by omega
      have had : ad = ⟨ad.block, ad.off, none⟩ := by
        obtain ⟨q1, q2, _⟩ := hp 0 hlt
        have := q2 0 (by omega)
        have e0 : (ad.add (0 * sz)).add 0 = ad := by simp [Addr.add]
        rw [e0] at this
        exact addr_of_cell this
      have hcells := cells_at (w := w) (ess := ps.map (·.1)) (b := ad.block) (off := ad.off) (sz := sz) (fun i es hes => by
        rw [List.getElem?_map] at hes
        cases hpi : ps[i]? with
        | none => rw [hpi] at hes; cases hes
        | some p =>
          rw [hpi] at hes
          simp only [Option.map_some, Option.some.injEq] at hes
          subst hes
          obtain ⟨hi, rfl⟩ := List.getElem?_eq_some_iff.1 hpi
          obtain ⟨q1, q2, _⟩ := hp i hi
          refine ⟨q1, fun j u hu => ?_⟩
          obtain ⟨hj, rfl⟩ := List.getElem?_eq_some_iff.1 hu
          have := q2 j hj
          rw [had, add_spot, add_spot] at this
          exact this)
      have hmem : ∀ p ∈ ps, Reps allFrozen w p.1 (enc p.2).cells ∧ ok p.2 := by
        intro p hpm
        obtain ⟨i, hi, rfl⟩ := List.getElem_of_mem hpm
        exact (hp i hi).2.2
      have hr := reps_flat (enc := enc) (fun p hpm => (hmem p hpm).1)
      refine ⟨ps.map (·.2), ?_, fun x hx => ?_⟩
      · have hlen : ((ps.map (·.2)).map enc).length = l := by simp [hl]
        rw [had]
        have := Rep.row (ro := allFrozen) (w := w) (b := ad.block) (off := ad.off) (cap := c) (sz := sz) (xs := (ps.map (·.2)).map enc) (ps.map (·.1)).flatten h0 (by rw [hlen]; exact h1) h2 (by rw [hcells.1, hlen]; simp [hl]) (fun x hx => by obtain ⟨y, _, rfl⟩ := List.mem_map.1 hx; exact hw y) hr.2.1 (fun j u hu => ⟨hcells.2 j u hu, okFrozen _ _⟩) hr.2.2
        rw [hlen] at this
        exact this
      · obtain ⟨p, hpm, rfl⟩ := List.mem_map.1 hx
        exact (hmem p hpm).2

/-- Behind a function that answers true. -/
theorem law_true {f : FuncId} {args : List D} {vs : Array Value} (hc : Contract P f args [.d (.sc (.bool true))]) (hl : vs.size = args.length) (hr : ∀ (i : Nat) (v : Value) (d : D), vs.toList[i]? = some v → args[i]? = some d → Rep allFrozen w v d) :
    Calls P f vs w fun e w' => e = .returned (.bool true) ∧ Below w.heap.size w w' := by
  refine (hc allFrozen w vs 0 (fun _ _ => rfl) (fun _ _ _ _ _ h => by cases h) hl hr).mono ?_
  rintro e w' ⟨v, ro', rfl, hg, hs⟩
  have : v = .bool true := (rep_sc (show Rep ro' w' v (.sc (.bool true)) from hs)).1
  exact ⟨by rw [this], hg.below⟩
/-- The same, of a function that makes things with names. -/
theorem law_trueH {f : FuncId} {args : List D} {vs : Array Value} {pre post : List (Nat × S)} (hc : ContractH P f args pre [.d (.sc (.bool true))] post) (hp : ∀ p ∈ pre, p.2 = .free) (hl : vs.size = args.length) (hr : ∀ (i : Nat) (v : Value) (d : D), vs.toList[i]? = some v → args[i]? = some d → Rep allFrozen w v d) :
    Calls P f vs w fun e w' => e = .returned (.bool true) ∧ Below w.heap.size w w' := by
  refine (hc allFrozen w vs 0 (fun _ _ => rfl) (fun _ _ _ _ _ h => by cases h) hl hr (fun p hm => by rw [hp p hm]; intro b k h; cases h)).mono ?_
  rintro e w' ⟨v, ro', rfl, hg, hs, _⟩
  have : v = .bool true := (rep_sc (show Rep ro' w' v (.sc (.bool true)) from hs)).1
  exact ⟨by rw [this], hg.os, hg.tape, hg.output, hg.size, fun k hk => hg.block k hk fun id m h => by cases h⟩
end
end Go.Vm
end
section
namespace Go.Vm
open Go.RowKit Go.Proofs
set_option linter.unusedVariables false
set_option linter.unusedSimpArgs false
set_option maxRecDepth 10000

open Go.RowKit

section
variable {P : Program} {w : World}
theorem reps_cut {ro : Roles} {es : List Value} {o k : Nat} {c d : List D} (h1 : Reps ro w ((es.drop o).take k) c) (h2 : Reps ro w (es.drop (o + k)) d) : Reps ro w (es.drop o) (c ++ d) := by
  have h := h1.append h2
  rwa [← List.drop_drop, List.take_append_drop] at h
theorem reps_end {ro : Roles} {es : List Value} {o : Nat} (h : es.length = o) : Reps ro w (es.drop o) [] := by
  rw [List.drop_eq_nil_of_le (by omega)]; exact Reps.nil
theorem cells_int {t : TypeId} {cs : List Value} (ht : P.underlying t = some (.int .i64)) (h : Reads P w t cs) : ∃ n : Int, Reps allFrozen w cs [.sc (.int .i64 n)] := by
  obtain ⟨n, rfl, _⟩ := h.int ht
  exact ⟨n, rfl, by simp [Value.oneCell'], fun j u c hu hc => by cases j with | zero => simp at hu hc; subst hu hc; exact .sc rfl | succ j => simp at hu⟩
theorem cells_str {t : TypeId} {cs : List Value} (ht : P.underlying t = some .string) (h : Reads P w t cs) : ∃ s : ByteArray, Reps allFrozen w cs [.sc (.string s)] := by
  obtain ⟨s, rfl, _⟩ := h.string ht
  exact ⟨s, rfl, by simp [Value.oneCell'], fun j u c hu hc => by cases j with | zero => simp at hu hc; subst hu hc; exact .sc rfl | succ j => simp at hu⟩
theorem cells_row {t e : TypeId} {sz : Nat} {α : Type} {enc : α → D} {cs : List Value} (ht : P.underlying t = some (.slice e)) (hsz : P.cellsOf e = sz) (h0 : 0 < sz) (hw : ∀ x, (enc x).cells.length = sz) (hel : Cells P w e enc (fun _ => True)) (h : Reads P w t cs) : ∃ xs : List α, Reps allFrozen w cs [.row (xs.map enc)] := by
  have hc : ∃ a l c, cs = [.slice a l c] := by
    rcases h.slice ht with rfl | ⟨a, l, c, rfl, _⟩
    · exact ⟨_, _, _, rfl⟩
    · exact ⟨_, _, _, rfl⟩
  obtain ⟨a, l, c, rfl⟩ := hc
  obtain ⟨xs, hx, _⟩ := row_of ht hsz h0 hw hel h
  exact ⟨xs, rfl, by simp [Value.oneCell'], fun j u c hu hc => by cases j with | zero => simp at hu hc; subst hu hc; exact hx | succ j => simp at hu⟩
theorem rep_agg {ro : Roles} {s : Array Value} {cs : List D} (h : Reps ro w s.toList cs) : Rep ro w (.agg s) (.agg cs) := .agg (by simpa using h.1) h.2.1 h.2.2
end
theorem str_cells (w : World) : Cells Try.prog w 9 strD (fun _ => True) := by
  intro es h
  obtain ⟨s, hs⟩ := cells_str Try.underlying9 h
  exact ⟨s, hs, trivial⟩

theorem ref_cells (w : World) : Cells Try.prog w 23 rD (fun _ => True) := by
  intro es h
  obtain ⟨hl, hf⟩ := h.struct Try.underlying23
  rw [show Try.prog.cellsOf 23 = 3 from by kernel_rfl] at hl
  have h0 := hf _ (List.mem_cons_self ..)
  simp only [show Try.prog.cellsOf 3 = 1 from by kernel_rfl] at h0
  obtain ⟨v0, r0⟩ := cells_int Try.underlying3 h0
  have h1 := hf _ (List.mem_cons_of_mem _ (List.mem_cons_self ..))
  simp only [show Try.prog.cellsOf 9 = 1 from by kernel_rfl] at h1
  obtain ⟨v1, r1⟩ := cells_str Try.underlying9 h1
  have h2 := hf _ (List.mem_cons_of_mem _ (List.mem_cons_of_mem _ (List.mem_cons_self ..)))
  simp only [show Try.prog.cellsOf 9 = 1 from by kernel_rfl] at h2
  obtain ⟨v2, r2⟩ := cells_str Try.underlying9 h2
  exact ⟨⟨v0, v1, v2⟩, reps_cut (o := 0) (k := 1) r0 (reps_cut (o := 1) (k := 1) r1 (reps_cut (o := 2) (k := 1) r2 (reps_end hl))), trivial⟩
theorem pair_cells (w : World) : Cells Try.prog w 38 pairD (fun _ => True) := by
  intro es h
  obtain ⟨hl, hf⟩ := h.struct Try.underlying38
  rw [show Try.prog.cellsOf 38 = 2 from by kernel_rfl] at hl
  have h0 := hf _ (List.mem_cons_self ..)
  simp only [show Try.prog.cellsOf 9 = 1 from by kernel_rfl] at h0
  obtain ⟨v0, r0⟩ := cells_str Try.underlying9 h0
  have h1 := hf _ (List.mem_cons_of_mem _ (List.mem_cons_self ..))
  simp only [show Try.prog.cellsOf 9 = 1 from by kernel_rfl] at h1
  obtain ⟨v1, r1⟩ := cells_str Try.underlying9 h1
  exact ⟨(v0, v1), reps_cut (o := 0) (k := 1) r0 (reps_cut (o := 1) (k := 1) r1 (reps_end hl)), trivial⟩
theorem field_cells (w : World) : Cells Try.prog w 26 fD (fun _ => True) := by
  intro es h
  obtain ⟨hl, hf⟩ := h.struct Try.underlying26
  rw [show Try.prog.cellsOf 26 = 7 from by kernel_rfl] at hl
  have h0 := hf _ (List.mem_cons_self ..)
  simp only [show Try.prog.cellsOf 23 = 3 from by kernel_rfl] at h0
  obtain ⟨v0, r0, _⟩ := ref_cells w _ h0
  have h1 := hf _ (List.mem_cons_of_mem _ (List.mem_cons_self ..))
  simp only [show Try.prog.cellsOf 3 = 1 from by kernel_rfl] at h1
  obtain ⟨v1, r1⟩ := cells_int Try.underlying3 h1
  have h2 := hf _ (List.mem_cons_of_mem _ (List.mem_cons_of_mem _ (List.mem_cons_self ..)))
  simp only [show Try.prog.cellsOf 9 = 1 from by kernel_rfl] at h2
  obtain ⟨v2, r2⟩ := cells_str Try.underlying9 h2
  have h3 := hf _ (List.mem_cons_of_mem _ (List.mem_cons_of_mem _ (List.mem_cons_of_mem _ (List.mem_cons_self ..))))
  simp only [show Try.prog.cellsOf 24 = 1 from by kernel_rfl] at h3
  obtain ⟨v3, r3⟩ := cells_row Try.underlying24 (show Try.prog.cellsOf 9 = 1 from by kernel_rfl) (by omega) (fun _ => rfl) (str_cells w) h3
  have h4 := hf _ (List.mem_cons_of_mem _ (List.mem_cons_of_mem _ (List.mem_cons_of_mem _ (List.mem_cons_of_mem _ (List.mem_cons_self ..)))))
  simp only [show Try.prog.cellsOf 2 = 1 from by kernel_rfl] at h4
  obtain ⟨v4, r4⟩ := cells_int Try.underlying2 h4
  exact ⟨⟨v0, v1, v2, v3, v4⟩, reps_cut (o := 0) (k := 3) r0 (reps_cut (o := 3) (k := 1) r1 (reps_cut (o := 4) (k := 1) r2 (reps_cut (o := 5) (k := 1) r3 (reps_cut (o := 6) (k := 1) r4 (reps_end hl))))), trivial⟩
theorem lens_cells (w : World) : Cells Try.prog w 29 lD (fun _ => True) := by
  intro es h
  obtain ⟨hl, hf⟩ := h.struct Try.underlying29
  rw [show Try.prog.cellsOf 29 = 16 from by kernel_rfl] at hl
  have h0 := hf _ (List.mem_cons_self ..)
  simp only [show Try.prog.cellsOf 3 = 1 from by kernel_rfl] at h0
  obtain ⟨v0, r0⟩ := cells_int Try.underlying3 h0
  have h1 := hf _ (List.mem_cons_of_mem _ (List.mem_cons_self ..))
  simp only [show Try.prog.cellsOf 23 = 3 from by kernel_rfl] at h1
  obtain ⟨v1, r1, _⟩ := ref_cells w _ h1
  have h2 := hf _ (List.mem_cons_of_mem _ (List.mem_cons_of_mem _ (List.mem_cons_self ..)))
  simp only [show Try.prog.cellsOf 9 = 1 from by kernel_rfl] at h2
  obtain ⟨v2, r2⟩ := cells_str Try.underlying9 h2
  have h3 := hf _ (List.mem_cons_of_mem _ (List.mem_cons_of_mem _ (List.mem_cons_of_mem _ (List.mem_cons_self ..))))
  simp only [show Try.prog.cellsOf 9 = 1 from by kernel_rfl] at h3
  obtain ⟨v3, r3⟩ := cells_str Try.underlying9 h3
  have h4 := hf _ (List.mem_cons_of_mem _ (List.mem_cons_of_mem _ (List.mem_cons_of_mem _ (List.mem_cons_of_mem _ (List.mem_cons_self ..)))))
  simp only [show Try.prog.cellsOf 2 = 1 from by kernel_rfl] at h4
  obtain ⟨v4, r4⟩ := cells_int Try.underlying2 h4
  have h5 := hf _ (List.mem_cons_of_mem _ (List.mem_cons_of_mem _ (List.mem_cons_of_mem _ (List.mem_cons_of_mem _ (List.mem_cons_of_mem _ (List.mem_cons_self ..))))))
  simp only [show Try.prog.cellsOf 26 = 7 from by kernel_rfl] at h5
  obtain ⟨v5, r5, _⟩ := field_cells w _ h5
  have h6 := hf _ (List.mem_cons_of_mem _ (List.mem_cons_of_mem _ (List.mem_cons_of_mem _ (List.mem_cons_of_mem _ (List.mem_cons_of_mem _ (List.mem_cons_of_mem _ (List.mem_cons_self ..)))))))
  simp only [show Try.prog.cellsOf 27 = 1 from by kernel_rfl] at h6
  obtain ⟨v6, r6⟩ := cells_row Try.underlying27 (show Try.prog.cellsOf 38 = 2 from by kernel_rfl) (by omega) (fun _ => rfl) (pair_cells w) h6
  have h7 := hf _ (List.mem_cons_of_mem _ (List.mem_cons_of_mem _ (List.mem_cons_of_mem _ (List.mem_cons_of_mem _ (List.mem_cons_of_mem _ (List.mem_cons_of_mem _ (List.mem_cons_of_mem _ (List.mem_cons_self ..))))))))
  simp only [show Try.prog.cellsOf 27 = 1 from by kernel_rfl] at h7
  obtain ⟨v7, r7⟩ := cells_row Try.underlying27 (show Try.prog.cellsOf 38 = 2 from by kernel_rfl) (by omega) (fun _ => rfl) (pair_cells w) h7
  exact ⟨⟨v0, v1, v2, v3, v4, v5, v6, v7⟩, reps_cut (o := 0) (k := 1) r0 (reps_cut (o := 1) (k := 3) r1 (reps_cut (o := 4) (k := 1) r2 (reps_cut (o := 5) (k := 1) r3 (reps_cut (o := 6) (k := 1) r4 (reps_cut (o := 7) (k := 7) r5 (reps_cut (o := 14) (k := 1) r6 (reps_cut (o := 15) (k := 1) r7 (reps_end hl)))))))), trivial⟩
theorem tag_cells (w : World) : Cells Try.prog w 56 tD (fun _ => True) := by
  intro es h
  obtain ⟨hl, hf⟩ := h.struct Try.underlying56
  rw [show Try.prog.cellsOf 56 = 2 from by kernel_rfl] at hl
  have h0 := hf _ (List.mem_cons_self ..)
  simp only [show Try.prog.cellsOf 3 = 1 from by kernel_rfl] at h0
  obtain ⟨v0, r0⟩ := cells_int Try.underlying3 h0
  have h1 := hf _ (List.mem_cons_of_mem _ (List.mem_cons_self ..))
  simp only [show Try.prog.cellsOf 3 = 1 from by kernel_rfl] at h1
  obtain ⟨v1, r1⟩ := cells_int Try.underlying3 h1
  exact ⟨⟨v0, v1⟩, reps_cut (o := 0) (k := 1) r0 (reps_cut (o := 1) (k := 1) r1 (reps_end hl)), trivial⟩
theorem edge_cells (w : World) : Cells Try.prog w 58 eD (fun _ => True) := by
  intro es h
  obtain ⟨hl, hf⟩ := h.struct Try.underlying58
  rw [show Try.prog.cellsOf 58 = 20 from by kernel_rfl] at hl
  have h0 := hf _ (List.mem_cons_self ..)
  simp only [show Try.prog.cellsOf 56 = 2 from by kernel_rfl] at h0
  obtain ⟨v0, r0, _⟩ := tag_cells w _ h0
  have h1 := hf _ (List.mem_cons_of_mem _ (List.mem_cons_self ..))
  simp only [show Try.prog.cellsOf 56 = 2 from by kernel_rfl] at h1
  obtain ⟨v1, r1, _⟩ := tag_cells w _ h1
  have h2 := hf _ (List.mem_cons_of_mem _ (List.mem_cons_of_mem _ (List.mem_cons_self ..)))
  simp only [show Try.prog.cellsOf 29 = 16 from by kernel_rfl] at h2
  obtain ⟨v2, r2, _⟩ := lens_cells w _ h2
  exact ⟨⟨v0, v1, v2⟩, reps_cut (o := 0) (k := 2) r0 (reps_cut (o := 2) (k := 2) r1 (reps_cut (o := 4) (k := 16) r2 (reps_end hl))), trivial⟩

end Go.Vm
end
section
namespace Go.Vm
open Go.RowKit Go.Proofs
set_option linter.unusedVariables false
set_option linter.unusedSimpArgs false
set_option maxRecDepth 10000

end Go.Vm
namespace Go.Proofs.Ytkgkljphjlikoaa
open Go.RowKit Go.Vm
theorem treeOrders_walk (a0 : Option Addr) (l0 c0 : Nat) (a1 : Int) (w : World) (r0 : Reads Try.prog w 52 [.slice a0 l0 c0]) (w1 : (Lit.int .i64 a1).wf = true) :
    Calls Try.prog 5 #[.slice a0 l0 c0, .int .i64 a1] w fun e w' => e = .returned (.bool true) ∧ Below w.heap.size w w' := by
  obtain ⟨x0, hx0, _⟩ := row_of Try.underlying52 (show Try.prog.cellsOf 58 = 20 from by kernel_rfl) (by omega) (fun _ => rfl) (edge_cells w) r0
  refine law_trueH (treeOrders_any x0 a1) (by simp) rfl ?_
  intro i v d hv hd
  match i, hv, hd with
  | 0, hv, hd => simp at hv hd; subst hv hd; exact hx0
  | 1, hv, hd => simp at hv hd; subst hv hd; exact Rep.sc rfl
  | i + 2, hv, _ => simp at hv
end Go.Proofs.Ytkgkljphjlikoaa
namespace Go.Vm

end Go.Vm
end
