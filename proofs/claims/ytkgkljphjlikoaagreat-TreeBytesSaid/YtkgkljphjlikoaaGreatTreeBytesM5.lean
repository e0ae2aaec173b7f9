/- Part 5 of what the proof of TreeBytes stands on: LnSchema2, LnSchema3, LnHeavy, LnTables, LnLensS, LnLens, LnLens2, LnLens3, LnMerged, LnArr, LnApply, LnApplyR, TrPlain, LbP, TrSettleP, TbP. -/
import Derived.Test.YtkgkljphjlikoaaGreatTreeBytesM4
section
namespace Go.Vm
open Go.RowKit Go.Proofs
set_option linter.unusedVariables false
set_option linter.unusedSimpArgs false
set_option maxRecDepth 10000

set_option maxHeartbeats 1000000 in
theorem schemaOwn_any (l : List FieldD) (ho : okL l) : Contract Tryz.prog 64 [.row (l.map fD)] [.d (.row (l.map fD))] := by
 refine T.fn [] Tryz.func64 ?_
 have hl0 := ho.1
 refine x_len ?_
 refine x_make ?_
 refine x_len ?_
 refine xloopR (fb := []) T.ok (Nat.le_of_ble_eq_true rfl) [9, 10] (fun (s : Nat × Nat × List FieldD) => [(11, .c (.d (.sc (.int .i64 ((s.1 : Nat) : Int))))), (3, .c (.own 8 28 (s.2.2.map fD)))]) (fun s => s.1 ≤ l.length ∧ s.2.2 = l.take s.1 ∧ True) (fun s => l.length - s.1) (0, 8, []) ⟨Nat.zero_le _, rfl, trivial⟩ (x_ent (by first | rfl | (simp only [Tr.get]; simp; done)) (x_ent (by first | rfl | (simp only [Tr.get]; simp; done)) trivial)) ?_
 rintro s ⟨hk, hA, hi⟩
 have hAl : s.2.2.length ≤ 1000 := by rw [hA]; exact length_take_le ho.1
 refine br (fun hc1 => ?y1) (fun hc1 => ?n1)
 case' y1 =>
  obtain ⟨p, hp⟩ := elem_at hc1
  have hkl := lt_len hp
  have hok := ho.at hp
  first | refine x_ix (by exact mapAt hp) ?_ | refine x_ixI (by exact mapAt hp) ?_
  refine x_call T.en_119 (fieldOwn_any _ (by assumption)) ?_
  first | refine x_app ?_ (by first | exact strs_wide | exact fD_wide | (simp [D.cells])) (hz := by first | exact snoc_map | exact one_map | rfl) | refine x_appN ?_ (by first | exact strs_wide | exact fD_wide | (simp [D.cells]))
  first | refine x_bin (pr_add1 (by omega)) rfl ?_ | refine x_inc ?_ | refine x_add ?_ | refine x_bin rfl rfl ?_
  refine x_rnd (s.1 + 1, 0, s.2.2 ++ [p]) ⟨lt_len hp, by rw [hA]; exact (take_next hp).symm, trivial⟩ (by (try dsimp only); have := lt_len hp; (try dsimp only); omega) rfl (x_ent (by first | rfl | (simp only [Tr.get]; simp; done)) (x_ent (by first | rfl | (simp only [Tr.get]; simp; done)) trivial)) rfl
 all_goals (refine x_ret ?_; simp only [fitsL, fits, C.asD, and_true] <;> (refine row_inj ?_; rw [hA, List.take_of_length_le (past_end (by assumption))]))

set_option maxHeartbeats 1000000 in
theorem schemaFind_any (l : List FieldD) (r : RefD) (ho : okL l) : Contract Tryz.prog 163 [.row (l.map fD), rD r] [.d (fD (findS l r).1), .d (.sc (.int .i64 (findS l r).2))] := by
 refine T.fn [] Tryz.func163 ?_
 refine x_call T.en_168 (schemaIndex_any _ _ (by first | assumption | exact ho.1)) ?_
 refine br (fun hc1 => ?y1) (fun hc1 => ?n1)
 case' y1 =>
  have hy := hc1
 case' n1 =>
  have hn := hc1
  have hib := index_bound (l := l) (r := r)
  have hi0 : 0 ≤ indexS l r := by omega
  first | refine x_ix (by exact fieldAt_ix (by assumption)) ?_ | refine x_ixI (by exact fieldAt_ix (by assumption)) ?_
  refine x_call T.en_119 (fieldOwn_any (fieldAt l r) (fieldAt_ok ho hn)) ?_
 all_goals (refine x_ret ?_; simp only [fitsL, fits, C.asD, and_true] <;> (first | (rw [find_no hy]; exact ⟨rfl, rfl⟩) | (rw [find_yes hn]; exact ⟨rfl, rfl⟩)))

set_option maxHeartbeats 1000000 in
theorem schemaWithout_any (l : List FieldD) (r : RefD) (ho : okL l) : Contract Tryz.prog 147 [.row (l.map fD), rD r] [.d (.row ((withoutS l r).1.map fD)), .d (.sc (.int .i64 (withoutS l r).2))] := by
 refine T.fn [] Tryz.func147 ?_
 have hl0 := ho.1
 refine x_call T.en_144 (schemaRight_any _ (by assumption)) ?_
 refine br (fun hc1 => ?y1) (fun hc1 => ?n1)
 case' y1 =>
  have hr0 : rightS l = false := by simpa using hc1
 case' n1 =>
  have hr : rightS l = true := by simpa using hc1
  refine x_call T.en_168 (schemaIndex_any _ _ (by first | assumption | exact ho.1)) ?_
  refine br (fun hc2 => ?y2) (fun hc2 => ?n2)
  case' y2 =>
   have hy := hc2
  case' n2 =>
   have hn := hc2
   have hib := index_bound (l := l) (r := r)
   refine x_len ?_
   first | refine x_bin (pr_add1 (by omega)) rfl ?_ | refine x_bin (pr_sub1 (by omega) (by omega)) rfl ?_ | refine x_sub ?_ | refine x_bin rfl rfl ?_
   refine x_make ?_
   refine x_len ?_
   refine xloopR (fb := []) T.ok (Nat.le_of_ble_eq_true rfl) [6, 22, 23] (fun (s : Nat × Nat × List FieldD) => [(24, .c (.d (.sc (.int .i64 ((s.1 : Nat) : Int))))), (7, .c (.own 21 28 (s.2.2.map fD)))]) (fun s => s.1 ≤ l.length ∧ s.2.2 = delF (l.take s.1) r ∧ True) (fun s => l.length - s.1) (0, 21, []) ⟨Nat.zero_le _, rfl, trivial⟩ (x_ent (by first | rfl | (simp only [Tr.get]; simp; done)) (x_ent (by first | rfl | (simp only [Tr.get]; simp; done)) trivial)) ?_
   rintro s ⟨hk, hA, hi⟩
   have hAl : s.2.2.length ≤ 1000 := by rw [hA]; exact length_del_le ho.1
   refine br (fun hc3 => ?y3) (fun hc3 => ?n3)
   case' y3 =>
    obtain ⟨p, hp⟩ := elem_at hc3
    have hkl := lt_len hp
    have hok := ho.at hp
    first | refine x_ix (by exact mapAt hp) ?_ | refine x_ixI (by exact mapAt hp) ?_
    refine br (fun hc4 => ?y4) (fun hc4 => ?n4)
    case' y4 =>
     have hd : ¬ p.at_ = r := fun e => hc4 ((gone_iff hr hn hp).2 e)
     refine x_call T.en_119 (fieldOwn_any _ (by assumption)) ?_
     first | refine x_app ?_ (by first | exact strs_wide | exact fD_wide | (simp [D.cells])) (hz := by first | exact snoc_map | exact one_map | rfl) | refine x_appN ?_ (by first | exact strs_wide | exact fD_wide | (simp [D.cells]))
     first | refine x_bin (pr_add1 (by omega)) rfl ?_ | refine x_bin (pr_sub1 (by omega) (by omega)) rfl ?_ | refine x_inc ?_ | refine x_add ?_ | refine x_bin rfl rfl ?_
     refine x_rnd (s.1 + 1, 0, s.2.2 ++ [p]) ⟨lt_len hp, by rw [hA, filter_next hp, if_neg hd], trivial⟩ (by (try dsimp only); have := lt_len hp; (try dsimp only); omega) rfl (x_ent (by first | rfl | (simp only [Tr.get]; simp; done)) (x_ent (by first | rfl | (simp only [Tr.get]; simp; done)) trivial)) rfl
    case' n4 =>
     have hd : p.at_ = r := (gone_iff hr hn hp).1 hc4
     first | refine x_bin (pr_add1 (by omega)) rfl ?_ | refine x_bin (pr_sub1 (by omega) (by omega)) rfl ?_ | refine x_inc ?_ | refine x_add ?_ | refine x_bin rfl rfl ?_
     refine x_rnd (s.1 + 1, s.2.1, s.2.2) ⟨lt_len hp, by rw [hA, filter_next hp, if_pos hd, List.append_nil], trivial⟩ (by (try dsimp only); have := lt_len hp; (try dsimp only); omega) rfl (x_ent (by first | rfl | (simp only [Tr.get]; simp; done)) (x_ent (by first | rfl | (simp only [Tr.get]; simp; done)) trivial)) rfl
 all_goals (refine x_ret ?_; simp only [fitsL, fits, C.asD, and_true] <;> (first | (rw [show withoutS l r = ([], 5) from if_pos hr0]; exact ⟨rfl, rfl⟩) | (rw [show withoutS l r = ([], 6) by unfold withoutS; rw [hr, if_neg (by simp), if_pos hy]]; exact ⟨rfl, rfl⟩) | (rw [show withoutS l r = (delF l r, 0) by unfold withoutS; rw [hr, if_neg (by simp), if_neg hn]]; exact ⟨row_inj (by rw [hA, List.take_of_length_le (past_end (by assumption))]), rfl⟩)))

set_option maxHeartbeats 1000000 in
theorem refSchemaWithout_any (l : List FieldD) (r : RefD) (ho : okL l) : Contract Tryz.prog 112 [.row (l.map fD), rD r] [.d (.row ((withoutS l r).1.map fD)), .d (.sc (.int .i64 (withoutS l r).2))] := by
 refine T.fn [] Tryz.func112 ?_
 have hl0 := ho.1
 refine x_call T.en_109 (refSchemaRight_any _ (by assumption)) ?_
 refine br (fun hc1 => ?y1) (fun hc1 => ?n1)
 case' y1 =>
  have hr0 : rightS l = false := by simpa using hc1
 case' n1 =>
  have hr : rightS l = true := by simpa using hc1
  refine x_call T.en_111 (refSchemaAt_any _ _ (by first | assumption | exact ho.1)) ?_
  refine br (fun hc2 => ?y2) (fun hc2 => ?n2)
  case' y2 =>
   have hy := hc2
  case' n2 =>
   have hn := hc2
   have hib := index_bound (l := l) (r := r)
   refine xloopR (fb := []) T.ok (Nat.le_of_ble_eq_true rfl) [0, 3] (fun (s : Nat × Nat × List FieldD) => [(7, .c (.d (.sc (.int .i64 ((s.1 : Nat) : Int))))), (6, .c (.own 15 28 (s.2.2.map fD)))]) (fun s => s.1 ≤ l.length ∧ s.2.2 = delF (l.take s.1) r ∧ True) (fun s => l.length - s.1) (0, 15, []) ⟨Nat.zero_le _, rfl, trivial⟩ (x_ent (by first | rfl | (simp only [Tr.get]; simp; done)) (x_ent (by first | rfl | (simp only [Tr.get]; simp; done)) trivial)) ?_
   rintro s ⟨hk, hA, hi⟩
   have hAl : s.2.2.length ≤ 1000 := by rw [hA]; exact length_del_le ho.1
   refine x_len ?_
   refine br (fun hc3 => ?y3) (fun hc3 => ?n3)
   case' y3 =>
    obtain ⟨p, hp⟩ := elem_at hc3
    have hkl := lt_len hp
    have hok := ho.at hp
    refine And.intro ⟨T.mixed, by decide +kernel⟩ ?_
    first | refine x_ix (by exact mapAt hp) ?_ | refine x_ixI (by exact mapAt hp) ?_
    first | refine xeq_25n _ _ ?_ | refine xeq_25n _ noRef ?_ | refine xeq_25n noRef _ ?_
    refine br (fun hc4 => ?y4) (fun hc4 => ?n4)
    case' y4 =>
     have hd : ¬ p.at_ = r := by simpa using hc4
     first | refine x_ix (by exact mapAt hp) ?_ | refine x_ixI (by exact mapAt hp) ?_
     first | refine x_app ?_ (by first | exact strs_wide | exact fD_wide | (simp [D.cells])) (hz := by first | exact snoc_map | exact one_map | rfl) | refine x_appN ?_ (by first | exact strs_wide | exact fD_wide | (simp [D.cells]))
     first | refine x_bin (pr_add1 (by omega)) rfl ?_ | refine x_bin (pr_sub1 (by omega) (by omega)) rfl ?_ | refine x_inc ?_ | refine x_add ?_ | refine x_bin rfl rfl ?_
     refine x_rnd (s.1 + 1, 0, s.2.2 ++ [p]) ⟨lt_len hp, by rw [hA, filter_next hp, if_neg hd], trivial⟩ (by (try dsimp only); have := lt_len hp; (try dsimp only); omega) rfl (x_ent (by first | rfl | (simp only [Tr.get]; simp; done)) (x_ent (by first | rfl | (simp only [Tr.get]; simp; done)) trivial)) rfl
    case' n4 =>
     have hd : p.at_ = r := by simpa using hc4
     first | refine x_bin (pr_add1 (by omega)) rfl ?_ | refine x_bin (pr_sub1 (by omega) (by omega)) rfl ?_ | refine x_inc ?_ | refine x_add ?_ | refine x_bin rfl rfl ?_
     refine x_rnd (s.1 + 1, s.2.1, s.2.2) ⟨lt_len hp, by rw [hA, filter_next hp, if_pos hd, List.append_nil], trivial⟩ (by (try dsimp only); have := lt_len hp; (try dsimp only); omega) rfl (x_ent (by first | rfl | (simp only [Tr.get]; simp; done)) (x_ent (by first | rfl | (simp only [Tr.get]; simp; done)) trivial)) rfl
 all_goals (refine x_ret ?_; simp only [fitsL, fits, C.asD, and_true] <;> (first | (rw [show withoutS l r = ([], 5) from if_pos hr0]; exact ⟨rfl, rfl⟩) | (rw [show withoutS l r = ([], 6) by unfold withoutS; rw [hr, if_neg (by simp), if_pos hy]]; exact ⟨rfl, rfl⟩) | (rw [show withoutS l r = (delF l r, 0) by unfold withoutS; rw [hr, if_neg (by simp), if_neg hn]]; exact ⟨row_inj (by rw [hA, List.take_of_length_le (past_end (by assumption))]), rfl⟩)))
end Go.Vm
end
section
namespace Go.Vm
open Go.RowKit Go.Proofs
set_option linter.unusedVariables false
set_option linter.unusedSimpArgs false
set_option maxRecDepth 10000

theorem ins_next {l : List FieldD} {f p : FieldD} {i k : Nat} (h : i ≤ k) (hp : l[k]? = some p) : (l.take i ++ f :: (l.drop i).take (k - i)) ++ [p] = l.take i ++ f :: (l.drop i).take (k + 1 - i) := by
  have : (l.drop i)[k - i]? = some p := by rw [List.getElem?_drop, show i + (k - i) = k by omega]; exact hp
  rw [show k + 1 - i = (k - i) + 1 by omega, take_next this]; simp
theorem ins_end {l : List FieldD} {f : FieldD} {i k : Nat} (hk : l.length ≤ k) : l.take i ++ f :: (l.drop i).take (k - i) = l.take i ++ f :: l.drop i := by
  rw [List.take_of_length_le (show (l.drop i).length ≤ k - i by rw [List.length_drop]; omega)]
theorem ins_len {l : List FieldD} {f : FieldD} {i m n : Nat} (h : l.length ≤ n) : (l.take i ++ f :: (l.drop i).take m).length ≤ n + 1 := by
  rw [List.length_append, List.length_cons, List.length_take, List.length_take, List.length_drop]; omega
theorem with_5 {l : List FieldD} {f : FieldD} (h : (rightS l && rightF f) = false) : withS l f = ([], 5) := if_pos h
theorem with_7 {l : List FieldD} {f : FieldD} (h : rightS l = true ∧ rightF f = true) (h1 : 0 ≤ indexS l f.at_) : withS l f = ([], 7) := by unfold withS; rw [h.1, h.2, if_neg (by simp), if_pos h1]
theorem with_14 {l : List FieldD} {f : FieldD} (h : rightS l = true ∧ rightF f = true) (h1 : ¬ 0 ≤ indexS l f.at_) (h2 : 16 ≤ l.length) : withS l f = ([], 14) := by unfold withS; rw [h.1, h.2, if_neg (by simp), if_neg h1, if_pos h2]
theorem with_0 {l : List FieldD} {f : FieldD} (h : rightS l = true ∧ rightF f = true) (h1 : ¬ 0 ≤ indexS l f.at_) (h2 : l.length < 16) : withS l f = (insF l f, 0) := by unfold withS; rw [h.1, h.2, if_neg (by simp), if_neg h1, if_neg (by omega)]

set_option maxHeartbeats 1000000 in
theorem schemaWith_any (l : List FieldD) (f : FieldD) (ho : okL l) (hf : f.cases.length ≤ 1000000) : Contract Tryz.prog 148 [.row (l.map fD), fD f] [.d (.row ((withS l f).1.map fD)), .d (.sc (.int .i64 (withS l f).2))] := by
 refine T.fn [] Tryz.func148 ?_
 have hl0 := ho.1
 refine xscopeR (fb := []) T.ok (Nat.le_of_ble_eq_true rfl) [0, 1] (Sum.elim (fun (s : Nat × Nat × List FieldD) => 0) (fun (s : Nat × Nat × List FieldD) => 1)) (fun l => match Nat.beq l 0 with | true => [0, 3] | false => [0]) (Sum.elim (fun (s : Nat × Nat × List FieldD) => [(7, .c (.d (.sc (.int .i64 ((s.1 : Nat) : Int))))), (6, .c (.own 27 28 (s.2.2.map fD)))]) (fun (s : Nat × Nat × List FieldD) => [(7, .c (.d (.sc (.int .i64 ((s.1 : Nat) : Int))))), (6, .c (.own 27 28 (s.2.2.map fD)))])) (Sum.elim (fun (s : Nat × Nat × List FieldD) => s.1 ≤ l.length ∧ s.2.2 = l.take s.1 ∧ (∀ (j : Nat) (q : FieldD), j < s.1 → l[j]? = some q → lessB q.at_ f.at_ = true) ∧ (rightS l = true ∧ rightF f = true) ∧ ¬ 0 ≤ indexS l f.at_ ∧ l.length < 16) (fun (s : Nat × Nat × List FieldD) => s.1 ≤ l.length ∧ (∃ i, i ≤ s.1 ∧ s.2.2 = l.take i ++ f :: (l.drop i).take (s.1 - i) ∧ insF l f = l.take i ++ f :: l.drop i) ∧ (rightS l = true ∧ rightF f = true) ∧ ¬ 0 ≤ indexS l f.at_ ∧ l.length < 16)) (Sum.elim (fun (s : Nat × Nat × List FieldD) => l.length - s.1 + 1) (fun (s : Nat × Nat × List FieldD) => l.length - s.1)) (fun z _ => by rcases z with _ | _ <;> rfl) (by repeat (first | exact trivial | refine And.intro (fun _ => rfl) ?_)) (fun z _ => by rcases z with _ | _ <;> (repeat (first | exact trivial | refine And.intro (fun _ => rfl) ?_))) ?p1 ?f1
 case' p1 =>
  rintro (s | s)
  case' inl =>
   rintro ⟨hk, hA, hlt, hg⟩
   have hg3 := hg.2.2
   have hAl : s.2.2.length ≤ 16 := by rw [hA]; exact length_take_le (by omega)
   refine And.intro ⟨T.mixed, by decide +kernel⟩ ?_
   refine x_len ?_
   refine br (fun hg1 => ?y1) (fun hg1 => ?n1)
   case' y1 =>
    obtain ⟨p, hp⟩ := elem_at hg1
    have hkl := lt_len hp
    have hok := ho.at hp
    first | refine x_ix (by exact mapAt hp) ?_ | refine x_ixI (by exact mapAt hp) ?_
    refine x_call T.en_162 (less_any _ _) ?_
    refine br (fun hc2 => ?y2) (fun hc2 => ?n2)
    case' y2 =>
     first | refine x_ix (by exact mapAt hp) ?_ | refine x_ixI (by exact mapAt hp) ?_
     refine x_call T.en_119 (fieldOwn_any _ (by assumption)) ?_
     first | refine x_app ?_ (by first | exact strs_wide | exact fD_wide | (simp [D.cells])) (hz := by first | exact snoc_map | exact one_map | rfl) | refine x_appN ?_ (by first | exact strs_wide | exact fD_wide | (simp [D.cells]))
     first | refine x_bin (pr_add1 (by omega)) rfl ?_ | refine x_inc ?_ | refine x_add ?_ | refine x_bin rfl rfl ?_
     refine x_jmp (Sum.inl (s.1 + 1, 0, s.2.2 ++ [p])) ⟨lt_len hp, by rw [hA]; exact (take_next hp).symm, (fun j q hj hq => (Nat.lt_succ_iff_lt_or_eq.1 hj).elim (fun h => hlt j q h hq) (fun e => by subst e; rw [hp] at hq; injection hq with hq; subst hq; assumption)), hg⟩ rfl (by (try dsimp only [jlt, Sum.elim_inl, Sum.elim_inr]); have := lt_len hp; (try dsimp only); omega) rfl (x_ent (by first | rfl | (simp only [Tr.get]; simp; done)) (x_ent (by first | rfl | (simp only [Tr.get]; simp; done)) trivial)) rfl
    case' n2 =>
     refine x_call T.en_119 (fieldOwn_any _ (by assumption)) ?_
     first | refine x_app ?_ (by first | exact strs_wide | exact fD_wide | (simp [D.cells])) (hz := by first | exact snoc_map | exact one_map | rfl) | refine x_appN ?_ (by first | exact strs_wide | exact fD_wide | (simp [D.cells]))
     refine x_jmp (Sum.inr (s.1, 0, s.2.2 ++ [f])) ⟨hk, ⟨s.1, Nat.le_refl _, by rw [hA]; simp, (by first | exact ins_at hlt (.inl (past_end (by assumption))) | exact ins_at hlt (.inr ⟨p, hp, by simp_all⟩))⟩, hg⟩ rfl (by (try dsimp only [jlt, Sum.elim_inl, Sum.elim_inr]); (try dsimp only); omega) rfl (x_ent (by first | rfl | (simp only [Tr.get]; simp; done)) (x_ent (by first | rfl | (simp only [Tr.get]; simp; done)) trivial)) rfl
   case' n1 =>
    refine brF ?_
    refine x_call T.en_119 (fieldOwn_any _ (by assumption)) ?_
    first | refine x_app ?_ (by first | exact strs_wide | exact fD_wide | (simp [D.cells])) (hz := by first | exact snoc_map | exact one_map | rfl) | refine x_appN ?_ (by first | exact strs_wide | exact fD_wide | (simp [D.cells]))
    refine x_jmp (Sum.inr (s.1, 0, s.2.2 ++ [f])) ⟨hk, ⟨s.1, Nat.le_refl _, by rw [hA]; simp, (by first | exact ins_at hlt (.inl (past_end (by assumption))) | exact ins_at hlt (.inr ⟨p, hp, by simp_all⟩))⟩, hg⟩ rfl (by (try dsimp only [jlt, Sum.elim_inl, Sum.elim_inr]); (try dsimp only); omega) rfl (x_ent (by first | rfl | (simp only [Tr.get]; simp; done)) (x_ent (by first | rfl | (simp only [Tr.get]; simp; done)) trivial)) rfl
  case' inr =>
   rintro ⟨hk, ⟨i, hik, hA, hins⟩, hg⟩
   have hg3 := hg.2.2
   have hAl : s.2.2.length ≤ 17 := by rw [hA]; exact ins_len (n := 16) (by omega)
   refine x_len ?_
   refine br (fun hc4 => ?y4) (fun hc4 => ?n4)
   case' y4 =>
    obtain ⟨p, hp⟩ := elem_at hc4
    have hkl := lt_len hp
    have hok := ho.at hp
    first | refine x_ix (by exact mapAt hp) ?_ | refine x_ixI (by exact mapAt hp) ?_
    refine x_call T.en_119 (fieldOwn_any _ (by assumption)) ?_
    first | refine x_app ?_ (by first | exact strs_wide | exact fD_wide | (simp [D.cells])) (hz := by first | exact snoc_map | exact one_map | rfl) | refine x_appN ?_ (by first | exact strs_wide | exact fD_wide | (simp [D.cells]))
    first | refine x_bin (pr_add1 (by omega)) rfl ?_ | refine x_inc ?_ | refine x_add ?_ | refine x_bin rfl rfl ?_
    refine x_jmp (Sum.inr (s.1 + 1, 0, s.2.2 ++ [p])) ⟨lt_len hp, ⟨i, by (try dsimp only); omega, by rw [hA]; exact ins_next hik hp, hins⟩, hg⟩ rfl (by (try dsimp only [jlt, Sum.elim_inl, Sum.elim_inr]); have := lt_len hp; (try dsimp only); omega) rfl (x_ent (by first | rfl | (simp only [Tr.get]; simp; done)) (x_ent (by first | rfl | (simp only [Tr.get]; simp; done)) trivial)) rfl
 case' f1 =>
  skip
  refine x_call T.en_144 (schemaRight_any _ (by assumption)) ?_
  refine br (fun hg5 => ?y5) (fun hg5 => ?n5)
  case' y5 =>
   refine brT ?_
   have h5 : (rightS l && rightF f) = false := by simp_all
  case' n5 =>
   refine x_call T.en_79 (fieldRight_any _ (by assumption)) ?_
   refine br (fun hc7 => ?y7) (fun hc7 => ?n7)
   case' y7 =>
    have h5 : (rightS l && rightF f) = false := by simp_all
   case' n7 =>
    have hg1 : rightS l = true ∧ rightF f = true := by simp_all
    refine x_call T.en_168 (schemaIndex_any _ _ ho.1) ?_
    refine br (fun hc8 => ?y8) (fun hc8 => ?n8)
    case' y8 =>
     have h7 := hc8
    case' n8 =>
     have hg2 : ¬ 0 ≤ indexS l f.at_ := hc8
     refine x_len ?_
     refine br (fun hc9 => ?y9) (fun hc9 => ?n9)
     case' y9 =>
      have h14 : 16 ≤ l.length := by omega
     case' n9 =>
      have hg3 : l.length < 16 := by omega
      have hg : (rightS l = true ∧ rightF f = true) ∧ ¬ 0 ≤ indexS l f.at_ ∧ l.length < 16 := ⟨hg1, hg2, hg3⟩
      refine x_len ?_
      first | refine x_bin (pr_add1 (by omega)) rfl ?_ | refine x_inc ?_ | refine x_add ?_ | refine x_bin rfl rfl ?_
      refine x_make ?_
      refine x_jmp (Sum.inl (0, 27, [])) ⟨Nat.zero_le _, rfl, fun j q hj => absurd hj (Nat.not_lt_zero _), hg⟩ rfl trivial rfl (x_ent (by first | rfl | (simp only [Tr.get]; simp; done)) (x_ent (by first | rfl | (simp only [Tr.get]; simp; done)) trivial)) rfl
 all_goals (refine x_ret ?_; simp only [fitsL, fits, C.asD, and_true] <;> (first | (rw [with_5 h5]; exact ⟨rfl, rfl⟩) | (rw [with_7 hg1 h7]; exact ⟨rfl, rfl⟩) | (rw [with_14 hg1 hg2 h14]; exact ⟨rfl, rfl⟩) | (rw [with_0 hg.1 hg.2.1 hg.2.2]; exact ⟨row_inj (by rw [hA, ins_end (past_end (by assumption)), hins]), rfl⟩)))

set_option maxHeartbeats 1000000 in
theorem refSchemaWith_any (l : List FieldD) (f : FieldD) (ho : okL l) (hf : f.cases.length ≤ 1000000) : Contract Tryz.prog 141 [.row (l.map fD), fD f] [.d (.row ((withS l f).1.map fD)), .d (.sc (.int .i64 (withS l f).2))] := by
 refine T.fn [] Tryz.func141 ?_
 have hl0 := ho.1
 refine x_call T.en_109 (refSchemaRight_any _ (by assumption)) ?_
 refine br (fun hg1 => ?y1) (fun hg1 => ?n1)
 case' y1 =>
  refine brT ?_
  have h5 : (rightS l && rightF f) = false := by simp_all
 case' n1 =>
  refine x_call T.en_86 (refFieldRight_any _ (by assumption)) ?_
  refine br (fun hc3 => ?y3) (fun hc3 => ?n3)
  case' y3 =>
   have h5 : (rightS l && rightF f) = false := by simp_all
  case' n3 =>
   have hg1 : rightS l = true ∧ rightF f = true := by simp_all
   refine x_call T.en_111 (refSchemaAt_any _ _ ho.1) ?_
   refine br (fun hc4 => ?y4) (fun hc4 => ?n4)
   case' y4 =>
    have h7 := hc4
   case' n4 =>
    have hg2 : ¬ 0 ≤ indexS l f.at_ := hc4
    refine x_len ?_
    refine br (fun hc5 => ?y5) (fun hc5 => ?n5)
    case' y5 =>
     have h14 : 16 ≤ l.length := by omega
    case' n5 =>
     have hg3 : l.length < 16 := by omega
     have hg : (rightS l = true ∧ rightF f = true) ∧ ¬ 0 ≤ indexS l f.at_ ∧ l.length < 16 := ⟨hg1, hg2, hg3⟩
     refine xloopR (fb := []) T.ok (Nat.le_of_ble_eq_true rfl) [0, 3] (fun (s : Nat × Nat × List FieldD) => [(7, .c (.d (.sc (.int .i64 ((s.1 : Nat) : Int))))), (6, .c (.own 24 28 (s.2.2.map fD)))]) (fun s => s.1 ≤ l.length ∧ s.2.2 = l.take s.1 ∧ (∀ (j : Nat) (q : FieldD), j < s.1 → l[j]? = some q → lessB q.at_ f.at_ = true) ∧ (rightS l = true ∧ rightF f = true) ∧ ¬ 0 ≤ indexS l f.at_ ∧ l.length < 16) (fun s => l.length - s.1) (0, 24, []) ⟨Nat.zero_le _, rfl, fun j q hj => absurd hj (Nat.not_lt_zero _), hg⟩ (x_ent (by first | rfl | (simp only [Tr.get]; simp; done)) (x_ent (by first | rfl | (simp only [Tr.get]; simp; done)) trivial)) ?_
     rintro s ⟨hk, hA, hlt, hg⟩
     have hg3 := hg.2.2
     have hAl : s.2.2.length ≤ 16 := by rw [hA]; exact length_take_le (by omega)
     refine And.intro ⟨T.mixed, by decide +kernel⟩ ?_
     refine x_len ?_
     refine br (fun hg6 => ?y6) (fun hg6 => ?n6)
     case' y6 =>
      obtain ⟨p, hp⟩ := elem_at hg6
      have hkl := lt_len hp
      have hok := ho.at hp
      first | refine x_ix (by exact mapAt hp) ?_ | refine x_ixI (by exact mapAt hp) ?_
      refine x_call T.en_139 (refLess_any _ _) ?_
      refine br (fun hc7 => ?y7) (fun hc7 => ?n7)
      case' y7 =>
       first | refine x_ix (by exact mapAt hp) ?_ | refine x_ixI (by exact mapAt hp) ?_
       first | refine x_app ?_ (by first | exact strs_wide | exact fD_wide | (simp [D.cells])) (hz := by first | exact snoc_map | exact one_map | rfl) | refine x_appN ?_ (by first | exact strs_wide | exact fD_wide | (simp [D.cells]))
       first | refine x_bin (pr_add1 (by omega)) rfl ?_ | refine x_inc ?_ | refine x_add ?_ | refine x_bin rfl rfl ?_
       refine x_rnd (s.1 + 1, 0, s.2.2 ++ [p]) ⟨lt_len hp, by rw [hA]; exact (take_next hp).symm, (fun j q hj hq => (Nat.lt_succ_iff_lt_or_eq.1 hj).elim (fun h => hlt j q h hq) (fun e => by subst e; rw [hp] at hq; injection hq with hq; subst hq; assumption)), hg⟩ (by (try dsimp only); have := lt_len hp; (try dsimp only); omega) rfl (x_ent (by first | rfl | (simp only [Tr.get]; simp; done)) (x_ent (by first | rfl | (simp only [Tr.get]; simp; done)) trivial)) rfl
      case' n7 =>
       first | refine x_app ?_ (by first | exact strs_wide | exact fD_wide | (simp [D.cells])) (hz := by first | exact snoc_map | exact one_map | rfl) | refine x_appN ?_ (by first | exact strs_wide | exact fD_wide | (simp [D.cells]))
       refine xloopR (fb := []) T.ok (Nat.le_of_ble_eq_true rfl) [0] (fun (s : Nat × Nat × List FieldD) => [(7, .c (.d (.sc (.int .i64 ((s.1 : Nat) : Int))))), (6, .c (.own 24 28 (s.2.2.map fD)))]) (fun s => s.1 ≤ l.length ∧ (∃ i, i ≤ s.1 ∧ s.2.2 = l.take i ++ f :: (l.drop i).take (s.1 - i) ∧ insF l f = l.take i ++ f :: l.drop i) ∧ (rightS l = true ∧ rightF f = true) ∧ ¬ 0 ≤ indexS l f.at_ ∧ l.length < 16) (fun s => l.length - s.1) (s.1, 51, s.2.2 ++ [f]) ⟨hk, ⟨s.1, Nat.le_refl _, by rw [hA]; simp, (by first | exact ins_at hlt (.inl (past_end (by assumption))) | exact ins_at hlt (.inr ⟨p, hp, by simp_all⟩))⟩, hg⟩ (x_ent (by first | rfl | (simp only [Tr.get]; simp; done)) (x_ent (by first | rfl | (simp only [Tr.get]; simp; done)) trivial)) ?_
       rintro s ⟨hk, ⟨i, hik, hA, hins⟩, hg⟩
       have hg3 := hg.2.2
       have hAl : s.2.2.length ≤ 17 := by rw [hA]; exact ins_len (n := 16) (by omega)
       refine x_len ?_
       refine br (fun hc8 => ?y8) (fun hc8 => ?n8)
       case' y8 =>
        obtain ⟨p, hp⟩ := elem_at hc8
        have hkl := lt_len hp
        have hok := ho.at hp
        first | refine x_ix (by exact mapAt hp) ?_ | refine x_ixI (by exact mapAt hp) ?_
        first | refine x_app ?_ (by first | exact strs_wide | exact fD_wide | (simp [D.cells])) (hz := by first | exact snoc_map | exact one_map | rfl) | refine x_appN ?_ (by first | exact strs_wide | exact fD_wide | (simp [D.cells]))
        first | refine x_bin (pr_add1 (by omega)) rfl ?_ | refine x_inc ?_ | refine x_add ?_ | refine x_bin rfl rfl ?_
        refine x_rnd (s.1 + 1, 0, s.2.2 ++ [p]) ⟨lt_len hp, ⟨i, by (try dsimp only); omega, by rw [hA]; exact ins_next hik hp, hins⟩, hg⟩ (by (try dsimp only); have := lt_len hp; (try dsimp only); omega) rfl (x_ent (by first | rfl | (simp only [Tr.get]; simp; done)) (x_ent (by first | rfl | (simp only [Tr.get]; simp; done)) trivial)) rfl
     case' n6 =>
      refine brF ?_
      first | refine x_app ?_ (by first | exact strs_wide | exact fD_wide | (simp [D.cells])) (hz := by first | exact snoc_map | exact one_map | rfl) | refine x_appN ?_ (by first | exact strs_wide | exact fD_wide | (simp [D.cells]))
      refine xloopR (fb := []) T.ok (Nat.le_of_ble_eq_true rfl) [0] (fun (s : Nat × Nat × List FieldD) => [(7, .c (.d (.sc (.int .i64 ((s.1 : Nat) : Int))))), (6, .c (.own 24 28 (s.2.2.map fD)))]) (fun s => s.1 ≤ l.length ∧ (∃ i, i ≤ s.1 ∧ s.2.2 = l.take i ++ f :: (l.drop i).take (s.1 - i) ∧ insF l f = l.take i ++ f :: l.drop i) ∧ (rightS l = true ∧ rightF f = true) ∧ ¬ 0 ≤ indexS l f.at_ ∧ l.length < 16) (fun s => l.length - s.1) (s.1, 51, s.2.2 ++ [f]) ⟨hk, ⟨s.1, Nat.le_refl _, by rw [hA]; simp, (by first | exact ins_at hlt (.inl (past_end (by assumption))) | exact ins_at hlt (.inr ⟨p, hp, by simp_all⟩))⟩, hg⟩ (x_ent (by first | rfl | (simp only [Tr.get]; simp; done)) (x_ent (by first | rfl | (simp only [Tr.get]; simp; done)) trivial)) ?_
      rintro s ⟨hk, ⟨i, hik, hA, hins⟩, hg⟩
      have hg3 := hg.2.2
      have hAl : s.2.2.length ≤ 17 := by rw [hA]; exact ins_len (n := 16) (by omega)
      refine x_len ?_
      refine br (fun hc10 => ?y10) (fun hc10 => ?n10)
      case' y10 =>
       obtain ⟨p, hp⟩ := elem_at hc10
       have hkl := lt_len hp
       have hok := ho.at hp
       first | refine x_ix (by exact mapAt hp) ?_ | refine x_ixI (by exact mapAt hp) ?_
       first | refine x_app ?_ (by first | exact strs_wide | exact fD_wide | (simp [D.cells])) (hz := by first | exact snoc_map | exact one_map | rfl) | refine x_appN ?_ (by first | exact strs_wide | exact fD_wide | (simp [D.cells]))
       first | refine x_bin (pr_add1 (by omega)) rfl ?_ | refine x_inc ?_ | refine x_add ?_ | refine x_bin rfl rfl ?_
       refine x_rnd (s.1 + 1, 0, s.2.2 ++ [p]) ⟨lt_len hp, ⟨i, by (try dsimp only); omega, by rw [hA]; exact ins_next hik hp, hins⟩, hg⟩ (by (try dsimp only); have := lt_len hp; (try dsimp only); omega) rfl (x_ent (by first | rfl | (simp only [Tr.get]; simp; done)) (x_ent (by first | rfl | (simp only [Tr.get]; simp; done)) trivial)) rfl
 all_goals (refine x_ret ?_; simp only [fitsL, fits, C.asD, and_true] <;> (first | (rw [with_5 h5]; exact ⟨rfl, rfl⟩) | (rw [with_7 hg1 h7]; exact ⟨rfl, rfl⟩) | (rw [with_14 hg1 hg2 h14]; exact ⟨rfl, rfl⟩) | (rw [with_0 hg.1 hg.2.1 hg.2.2]; exact ⟨row_inj (by rw [hA, ins_end (past_end (by assumption)), hins]), rfl⟩)))
end Go.Vm
end
section
namespace Go.Vm
open Go.RowKit Go.Proofs
set_option linter.unusedVariables false
set_option linter.unusedSimpArgs false
set_option maxRecDepth 10000

def heavyF (f : FieldD) : Bool := decide (200 < f.at_.group.size) || decide (200 < f.at_.name.size) || decide (200 < f.deft.size) || decide (20 < f.cases.length) || f.cases.any (fun c => decide (200 < c.size))
def heavyS (l : List FieldD) : Bool := decide (40 < l.length) || l.any heavyF
theorem any_hit {α : Type} {l : List α} {f : α → Bool} {k : Nat} {p : α} (hp : l[k]? = some p) (h : f p = true) : l.any f = true := List.any_eq_true.2 ⟨p, List.mem_of_getElem? hp, h⟩
theorem any_next {α : Type} {l : List α} {f : α → Bool} {k : Nat} {p : α} (hp : l[k]? = some p) (h : (l.take k).any f = false) (hn : f p = false) : (l.take (k + 1)).any f = false := by
  rw [take_next hp, List.any_append, h]; simp [hn]
theorem any_end {α : Type} {l : List α} {f : α → Bool} {k : Nat} (hk : l.length ≤ k) (h : (l.take k).any f = false) : l.any f = false := by rwa [List.take_of_length_le hk] at h
theorem heavyF_ok {f : FieldD} (h : heavyF f = false) : f.cases.length ≤ 20 := by
  unfold heavyF at h; simp only [Bool.or_eq_false_iff, decide_eq_false_iff_not] at h; omega
theorem heavyS_ok {l : List FieldD} (h : heavyS l = false) : okL l := by
  unfold heavyS at h; simp only [Bool.or_eq_false_iff, decide_eq_false_iff_not] at h
  refine ⟨by omega, fun f hf => ?_⟩
  have := heavyF_ok (List.any_eq_false.1 h.2 f hf |> fun k => by simpa using k)
  omega

set_option maxHeartbeats 1000000 in
theorem refFieldHeavy_any (f : FieldD) : Contract Tryz.prog 40 [fD f] [.d (.sc (.bool (heavyF f)))] := by
 refine T.fn [] Tryz.func40 ?_
 refine x_len ?_
 refine br (fun hg1 => ?y1) (fun hg1 => ?n1)
 case' y1 =>
  refine brT ?_
  refine brT ?_
  refine brT ?_
 case' n1 =>
  refine x_len ?_
  refine br (fun hg5 => ?y5) (fun hg5 => ?n5)
  case' y5 =>
   refine brT ?_
   refine brT ?_
  case' n5 =>
   refine x_len ?_
   refine br (fun hg8 => ?y8) (fun hg8 => ?n8)
   case' y8 =>
    refine brT ?_
   case' n8 =>
    refine x_len ?_
    refine br (fun hc10 => ?y10) (fun hc10 => ?n10)
    case' n10 =>
     have h20 : f.cases.length ≤ 20 := by omega
     refine xloopR (fb := []) T.ok (Nat.le_of_ble_eq_true rfl) [1] (fun (k : Nat) => [(3, .c (.d (.sc (.int .i64 (k : Nat)))))]) (fun k => k ≤ f.cases.length ∧ (f.cases.take k).any (fun c => decide (200 < c.size)) = false ∧ f.cases.length ≤ 20) (fun k => f.cases.length - k) 0 ⟨Nat.zero_le _, ⟨rfl, h20⟩⟩ (x_ent (by first | rfl | (simp only [Tr.get]; simp; done)) trivial) ?_
     rintro k ⟨hk, hi⟩
     refine x_len ?_
     refine br (fun hc11 => ?y11) (fun hc11 => ?n11)
     case' y11 =>
      obtain ⟨p, hp⟩ := elem_at hc11
      have hkl := lt_len hp
      first | refine x_ix (by exact mapAt hp) ?_ | refine x_ixI (by exact mapAt hp) ?_
      refine x_len ?_
      refine br (fun hc12 => ?y12) (fun hc12 => ?n12)
      case' n12 =>
       first | refine x_inc ?_ | refine x_add ?_ | refine x_bin rfl rfl ?_
       refine x_rnd (k + 1) ⟨lt_len hp, any_next hp hi.1 (by simp; omega), hi.2⟩ (by (try dsimp only); have := lt_len hp; omega) rfl (x_ent (by first | rfl | (simp only [Tr.get]; simp; done)) trivial) rfl
 all_goals (refine x_ret ?_; simp only [fitsL, fits, C.asD, and_true] <;> (refine scb ?_; first | (have hh := any_hit (f := fun c : ByteArray => decide (200 < c.size)) hp (by simp; omega); unfold heavyF; rw [hh, Bool.or_true]; done) | (have hh := any_end (past_end (by assumption)) hi.1; unfold heavyF; rw [hh, Bool.or_false]; symm; simp only [decide_eq_true_eq, decide_eq_false_iff_not, Bool.not_eq_true', Bool.not_eq_false', Bool.and_eq_true, Bool.or_eq_true, Bool.or_eq_false_iff, Bool.and_eq_false_iff, beq_iff_eq, beq_eq_false_iff_ne, ne_eq, Bool.not_true, Bool.not_false, Bool.false_eq_true, Bool.true_eq_false] at * <;> omega) | (symm; unfold heavyF; simp only [decide_eq_true_eq, decide_eq_false_iff_not, Bool.not_eq_true', Bool.not_eq_false', Bool.and_eq_true, Bool.or_eq_true, Bool.or_eq_false_iff, Bool.and_eq_false_iff, beq_iff_eq, beq_eq_false_iff_ne, ne_eq, Bool.not_true, Bool.not_false, Bool.false_eq_true, Bool.true_eq_false] at * <;> omega)))
end Go.Vm
end
section
namespace Go.Vm
open Go.RowKit Go.Proofs
set_option linter.unusedVariables false
set_option linter.unusedSimpArgs false
set_option maxRecDepth 10000

theorem pairs_wide {l : List (ByteArray × ByteArray)} : ∀ x ∈ l.map pairD, x.cells.length = 2 := by
  intro x hx; obtain ⟨y, _, rfl⟩ := List.mem_map.1 hx; rfl
theorem rs_wide {l : List RefD} : ∀ x ∈ l.map rD, x.cells.length = 3 := by
  intro x hx; obtain ⟨y, _, rfl⟩ := List.mem_map.1 hx; rfl
theorem find_none {l : List (ByteArray × ByteArray)} {s : ByteArray} {k : Nat} {p : ByteArray × ByteArray} (hp : l[k]? = some p) (h : (l.take k).find? (fun p => decide (p.1 = s)) = none) (hn : ¬ p.1 = s) : (l.take (k + 1)).find? (fun p => decide (p.1 = s)) = none := by
  rw [List.take_add_one, hp, List.find?_append, h]; simp [hn]
theorem case_hit {l : List (ByteArray × ByteArray)} {s : ByteArray} {k : Nat} {p : ByteArray × ByteArray} (hp : l[k]? = some p) (h : (l.take k).find? (fun p => decide (p.1 = s)) = none) (hn : p.1 = s) : caseT l s = (p.2, true) := by
  obtain ⟨hlt, hpe⟩ := List.getElem?_eq_some_iff.1 hp
  have e : l = l.take k ++ p :: l.drop (k + 1) := by rw [← hpe, ← List.drop_eq_getElem_cons hlt, List.take_append_drop]
  unfold caseT
  rw [e, List.find?_append, h]; simp [hn]
theorem case_miss {l : List (ByteArray × ByteArray)} {s : ByteArray} {k : Nat} (hk : l.length ≤ k) (h : (l.take k).find? (fun p => decide (p.1 = s)) = none) : caseT l s = (noB, false) := by
  rw [List.take_of_length_le hk] at h
  unfold caseT; rw [h]
theorem froms_next {l : List (ByteArray × ByteArray)} {k : Nat} {p : ByteArray × ByteArray} (hp : l[k]? = some p) : froms (l.take (k + 1)) = froms (l.take k) ++ [p.1] := by
  unfold froms; rw [take_next hp]; simp
theorem froms_len {l : List (ByteArray × ByteArray)} {k n : Nat} (h : l.length ≤ n) : (froms (l.take k)).length ≤ n := by unfold froms; rw [List.length_map]; exact length_take_le h
theorem take_length {α : Type} {l : List α} {k : Nat} (h : k < l.length) : (l.take k).length = k := by rw [List.length_take]; omega
def heavyP (l : List (ByteArray × ByteArray)) : Bool := decide (20 < l.length) || l.any (fun p => decide (200 < p.1.size) || decide (200 < p.2.size))
theorem heavyP_ok {l : List (ByteArray × ByteArray)} (h : heavyP l = false) : l.length ≤ 20 := by unfold heavyP at h; simp only [Bool.or_eq_false_iff, decide_eq_false_iff_not] at h; omega
def heavyL (x : LensD) : Bool := decide (200 < x.at_.group.size) || decide (200 < x.at_.name.size) || decide (200 < x.name.size) || decide (200 < x.other.size) || heavyF x.field || heavyP x.forth || heavyP x.back
theorem heavyL_ok {x : LensD} (h : heavyL x = false) : okX x := by
  unfold heavyL at h; simp only [Bool.or_eq_false_iff] at h
  have h1 := heavyF_ok h.1.1.2
  have h2 := heavyP_ok h.1.2
  have h3 := heavyP_ok h.2
  exact ⟨by omega, by omega, by omega⟩

theorem froms_no {l : List (ByteArray × ByteArray)} {s : ByteArray} {j : Nat} {q : ByteArray × ByteArray} (hq : l[j]? = some q) (h : s ∉ froms (l.take j)) (hn : ¬ q.1 = s) : s ∉ froms (l.take (j + 1)) := by
  rw [froms_next hq, List.mem_append, List.mem_singleton]
  rintro (k | k)
  · exact h k
  · exact hn k.symm
theorem froms_mem {l : List (ByteArray × ByteArray)} {s : ByteArray} {j : Nat} {q : ByteArray × ByteArray} (hq : l[j]? = some q) (h : q.1 = s) : s ∈ froms l := by
  rw [← h]; exact List.mem_map.2 ⟨q, List.mem_of_getElem? hq, rfl⟩

set_option maxHeartbeats 1000000 in
theorem case_any (l : (List (ByteArray × ByteArray))) (s : ByteArray) (hl : l.length ≤ 1000) : Contract Tryz.prog 131 [.row (l.map pairD), .sc (.string s)] [.d (.sc (.string (caseT l s).1)), .d (.sc (.bool (caseT l s).2))] := by
 refine T.fn [] Tryz.func131 ?_
 refine x_len ?_
 refine xloopR (fb := []) T.ok (Nat.le_of_ble_eq_true rfl) [1, 8, 9] (fun (k : Nat) => [(10, .c (.d (.sc (.int .i64 (k : Nat)))))]) (fun k => k ≤ l.length ∧ (l.take k).find? (fun p => decide (p.1 = s)) = none) (fun k => l.length - k) 0 ⟨Nat.zero_le _, rfl⟩ (x_ent (by first | rfl | (simp only [Tr.get]; simp; done)) trivial) ?_
 rintro k ⟨hk, hi⟩
 refine br (fun hc1 => ?y1) (fun hc1 => ?n1)
 case' y1 =>
  obtain ⟨p, hp⟩ := elem_at hc1
  have hkl := lt_len hp
  first | refine x_ix (by exact mapAt hp) ?_ | refine x_ixI (by exact mapAt hp) ?_
  refine br (fun hc2 => ?y2) (fun hc2 => ?n2)
  case' n2 =>
   first | refine x_inc ?_ | refine x_add ?_ | refine x_bin rfl rfl ?_
   refine x_rnd (k + 1) ⟨lt_len hp, find_none hp hi (by assumption)⟩ (by (try dsimp only); have := lt_len hp; omega) rfl (x_ent (by first | rfl | (simp only [Tr.get]; simp; done)) trivial) rfl
 all_goals (refine x_ret ?_; simp only [fitsL, fits, C.asD, and_true] <;> (first | (rw [case_hit hp hi (by assumption)]; exact ⟨rfl, rfl⟩) | (rw [case_miss (past_end (by assumption)) hi]; exact ⟨rfl, rfl⟩)))

set_option maxHeartbeats 1000000 in
theorem refCase_any (l : (List (ByteArray × ByteArray))) (s : ByteArray) (hl : l.length ≤ 1000) : Contract Tryz.prog 89 [.row (l.map pairD), .sc (.string s)] [.d (.sc (.string (caseT l s).1)), .d (.sc (.bool (caseT l s).2))] := by
 refine T.fn [] Tryz.func89 ?_
 refine xloopR (fb := []) T.ok (Nat.le_of_ble_eq_true rfl) [0, 1] (fun (k : Nat) => [(6, .c (.d (.sc (.int .i64 (k : Nat)))))]) (fun k => k ≤ l.length ∧ (l.take k).find? (fun p => decide (p.1 = s)) = none) (fun k => l.length - k) 0 ⟨Nat.zero_le _, rfl⟩ (x_ent (by first | rfl | (simp only [Tr.get]; simp; done)) trivial) ?_
 rintro k ⟨hk, hi⟩
 refine x_len ?_
 refine br (fun hc1 => ?y1) (fun hc1 => ?n1)
 case' y1 =>
  obtain ⟨p, hp⟩ := elem_at hc1
  have hkl := lt_len hp
  first | refine x_ix (by exact mapAt hp) ?_ | refine x_ixI (by exact mapAt hp) ?_
  refine br (fun hc2 => ?y2) (fun hc2 => ?n2)
  case' y2 =>
   first | refine x_ix (by exact mapAt hp) ?_ | refine x_ixI (by exact mapAt hp) ?_
  case' n2 =>
   first | refine x_inc ?_ | refine x_add ?_ | refine x_bin rfl rfl ?_
   refine x_rnd (k + 1) ⟨lt_len hp, find_none hp hi (by assumption)⟩ (by (try dsimp only); have := lt_len hp; omega) rfl (x_ent (by first | rfl | (simp only [Tr.get]; simp; done)) trivial) rfl
 all_goals (refine x_ret ?_; simp only [fitsL, fits, C.asD, and_true] <;> (first | (rw [case_hit hp hi (by assumption)]; exact ⟨rfl, rfl⟩) | (rw [case_miss (past_end (by assumption)) hi]; exact ⟨rfl, rfl⟩)))

set_option maxHeartbeats 1000000 in
theorem samePairs_any (l m : (List (ByteArray × ByteArray))) (hl : l.length ≤ 1000) : Contract Tryz.prog 93 [.row (l.map pairD), .row (m.map pairD)] [.d (.sc (.bool (decide (l = m))))] := by
 refine T.fn [] Tryz.func93 ?_
 refine x_len ?_
 refine x_len ?_
 refine br (fun hc1 => ?y1) (fun hc1 => ?n1)
 case' n1 =>
  have hlen : l.length = m.length := by omega
  refine x_len ?_
  refine xloopR (fb := []) T.ok (Nat.le_of_ble_eq_true rfl) [0, 1, 12] (fun (k : Nat) => [(13, .c (.d (.sc (.int .i64 (k : Nat)))))]) (fun k => k ≤ l.length ∧ l.take k = m.take k) (fun k => l.length - k) 0 ⟨Nat.zero_le _, rfl⟩ (x_ent (by first | rfl | (simp only [Tr.get]; simp; done)) trivial) ?_
  rintro k ⟨hk, hi⟩
  refine br (fun hc2 => ?y2) (fun hc2 => ?n2)
  case' y2 =>
   obtain ⟨p, hp⟩ := elem_at hc2
   have hkl := lt_len hp
   obtain ⟨q, hq⟩ := elem_too hp hlen
   refine And.intro ⟨T.mixed, by decide +kernel⟩ ?_
   first | refine x_ix (by first | exact mapAt hp | exact mapAt hq) ?_ | refine x_ixI (by first | exact mapAt hp | exact mapAt hq) ?_
   first | refine x_ix (by first | exact mapAt hp | exact mapAt hq) ?_ | refine x_ixI (by first | exact mapAt hp | exact mapAt hq) ?_
   refine xeq_119n _ _ ?_
   refine br (fun hc3 => ?y3) (fun hc3 => ?n3)
   case' n3 =>
    first | refine x_inc ?_ | refine x_add ?_ | refine x_bin rfl rfl ?_
    refine x_rnd (k + 1) ⟨lt_len hp, take_eq_next hp hq hi (by simp_all)⟩ (by (try dsimp only); have := lt_len hp; omega) rfl (x_ent (by first | rfl | (simp only [Tr.get]; simp; done)) trivial) rfl
 all_goals (refine x_ret ?_; simp only [fitsL, fits, C.asD, and_true] <;> (refine scb ?_; first | exact (decide_eq_false (fun e => by simp_all)).symm | exact (decide_eq_false (ne_at hp hq (fun e => by simp_all))).symm | exact (decide_eq_true (take_eq_end hlen (past_end (by assumption)) hi)).symm))

set_option maxHeartbeats 1000000 in
theorem refSamePairs_any (l m : (List (ByteArray × ByteArray))) (hl : l.length ≤ 1000) : Contract Tryz.prog 104 [.row (l.map pairD), .row (m.map pairD)] [.d (.sc (.bool (decide (l = m))))] := by
 refine T.fn [] Tryz.func104 ?_
 refine x_len ?_
 refine x_len ?_
 refine br (fun hc1 => ?y1) (fun hc1 => ?n1)
 case' n1 =>
  have hlen : l.length = m.length := by omega
  refine xloopR (fb := []) T.ok (Nat.le_of_ble_eq_true rfl) [0, 1] (fun (k : Nat) => [(5, .c (.d (.sc (.int .i64 (k : Nat)))))]) (fun k => k ≤ l.length ∧ l.take k = m.take k) (fun k => l.length - k) 0 ⟨Nat.zero_le _, rfl⟩ (x_ent (by first | rfl | (simp only [Tr.get]; simp; done)) trivial) ?_
  rintro k ⟨hk, hi⟩
  refine x_len ?_
  refine br (fun hc2 => ?y2) (fun hc2 => ?n2)
  case' y2 =>
   obtain ⟨p, hp⟩ := elem_at hc2
   have hkl := lt_len hp
   obtain ⟨q, hq⟩ := elem_too hp hlen
   refine And.intro ⟨T.mixed, by decide +kernel⟩ ?_
   first | refine x_ix (by first | exact mapAt hp | exact mapAt hq) ?_ | refine x_ixI (by first | exact mapAt hp | exact mapAt hq) ?_
   first | refine x_ix (by first | exact mapAt hp | exact mapAt hq) ?_ | refine x_ixI (by first | exact mapAt hp | exact mapAt hq) ?_
   refine xeq_119n _ _ ?_
   refine br (fun hc3 => ?y3) (fun hc3 => ?n3)
   case' n3 =>
    first | refine x_inc ?_ | refine x_add ?_ | refine x_bin rfl rfl ?_
    refine x_rnd (k + 1) ⟨lt_len hp, take_eq_next hp hq hi (by simp_all)⟩ (by (try dsimp only); have := lt_len hp; omega) rfl (x_ent (by first | rfl | (simp only [Tr.get]; simp; done)) trivial) rfl
 all_goals (refine x_ret ?_; simp only [fitsL, fits, C.asD, and_true] <;> (refine scb ?_; first | exact (decide_eq_false (fun e => by simp_all)).symm | exact (decide_eq_false (ne_at hp hq (fun e => by simp_all))).symm | exact (decide_eq_true (take_eq_end hlen (past_end (by assumption)) hi)).symm))

set_option maxHeartbeats 1000000 in
theorem froms_any (l : (List (ByteArray × ByteArray))) (hl : l.length ≤ 1000) : Contract Tryz.prog 166 [.row (l.map pairD)] [.d (.row ((froms l).map strD))] := by
 refine T.fn [] Tryz.func166 ?_
 refine x_len ?_
 refine x_make ?_
 refine x_len ?_
 refine xloopR (fb := []) T.ok (Nat.le_of_ble_eq_true rfl) [9, 10] (fun (s : Nat × Nat × List ByteArray) => [(11, .c (.d (.sc (.int .i64 ((s.1 : Nat) : Int))))), (3, .c (.own 8 9 (s.2.2.map strD)))]) (fun s => s.1 ≤ l.length ∧ s.2.2 = froms (l.take s.1)) (fun s => l.length - s.1) (0, 8, []) ⟨Nat.zero_le _, rfl⟩ (x_ent (by first | rfl | (simp only [Tr.get]; simp; done)) (x_ent (by first | rfl | (simp only [Tr.get]; simp; done)) trivial)) ?_
 rintro s ⟨hk, hA⟩
 have hAl : s.2.2.length ≤ 1000 := by rw [hA]; exact froms_len hl
 refine br (fun hc1 => ?y1) (fun hc1 => ?n1)
 case' y1 =>
  obtain ⟨p, hp⟩ := elem_at hc1
  have hkl := lt_len hp
  first | refine x_ix (by exact mapAt hp) ?_ | refine x_ixI (by exact mapAt hp) ?_
  first | refine x_app ?_ (by first | exact strs_wide | exact pairs_wide | exact rs_wide | exact fD_wide | (simp [D.cells])) (hz := by first | exact snoc_map (g := strD) | exact one_map (g := strD) | rfl) | refine x_appN ?_ (by first | exact strs_wide | exact pairs_wide | exact rs_wide | exact fD_wide | (simp [D.cells]))
  first | refine x_bin (pr_add1 (by omega)) rfl ?_ | refine x_inc ?_ | refine x_add ?_ | refine x_bin rfl rfl ?_
  refine x_rnd (s.1 + 1, 0, s.2.2 ++ [p.1]) ⟨lt_len hp, by rw [hA]; exact (froms_next hp).symm⟩ (by (try dsimp only); have := lt_len hp; (try dsimp only); omega) rfl (x_ent (by first | rfl | (simp only [Tr.get]; simp; done)) (x_ent (by first | rfl | (simp only [Tr.get]; simp; done)) trivial)) rfl
 all_goals (refine x_ret ?_; simp only [fitsL, fits, C.asD, and_true] <;> (refine row_inj ?_; rw [hA, List.take_of_length_le (past_end (by assumption))]))

set_option maxHeartbeats 1000000 in
theorem refFroms_any (l : (List (ByteArray × ByteArray))) (hl : l.length ≤ 1000) : Contract Tryz.prog 117 [.row (l.map pairD)] [.d (.row ((froms l).map strD))] := by
 refine T.fn [] Tryz.func117 ?_
 refine xloopR (fb := []) T.ok (Nat.le_of_ble_eq_true rfl) [0] (fun (s : Nat × Nat × List ByteArray) => [(4, .c (.d (.sc (.int .i64 ((s.1 : Nat) : Int))))), (3, .c (.own 5 9 (s.2.2.map strD)))]) (fun s => s.1 ≤ l.length ∧ s.2.2 = froms (l.take s.1)) (fun s => l.length - s.1) (0, 5, []) ⟨Nat.zero_le _, rfl⟩ (x_ent (by first | rfl | (simp only [Tr.get]; simp; done)) (x_ent (by first | rfl | (simp only [Tr.get]; simp; done)) trivial)) ?_
 rintro s ⟨hk, hA⟩
 have hAl : s.2.2.length ≤ 1000 := by rw [hA]; exact froms_len hl
 refine x_len ?_
 refine br (fun hc1 => ?y1) (fun hc1 => ?n1)
 case' y1 =>
  obtain ⟨p, hp⟩ := elem_at hc1
  have hkl := lt_len hp
  first | refine x_ix (by exact mapAt hp) ?_ | refine x_ixI (by exact mapAt hp) ?_
  first | refine x_app ?_ (by first | exact strs_wide | exact pairs_wide | exact rs_wide | exact fD_wide | (simp [D.cells])) (hz := by first | exact snoc_map (g := strD) | exact one_map (g := strD) | rfl) | refine x_appN ?_ (by first | exact strs_wide | exact pairs_wide | exact rs_wide | exact fD_wide | (simp [D.cells]))
  first | refine x_bin (pr_add1 (by omega)) rfl ?_ | refine x_inc ?_ | refine x_add ?_ | refine x_bin rfl rfl ?_
  refine x_rnd (s.1 + 1, 0, s.2.2 ++ [p.1]) ⟨lt_len hp, by rw [hA]; exact (froms_next hp).symm⟩ (by (try dsimp only); have := lt_len hp; (try dsimp only); omega) rfl (x_ent (by first | rfl | (simp only [Tr.get]; simp; done)) (x_ent (by first | rfl | (simp only [Tr.get]; simp; done)) trivial)) rfl
 all_goals (refine x_ret ?_; simp only [fitsL, fits, C.asD, and_true] <;> (refine row_inj ?_; rw [hA, List.take_of_length_le (past_end (by assumption))]))

set_option maxHeartbeats 1000000 in
theorem heavyPairs_any (l : (List (ByteArray × ByteArray))) : Contract Tryz.prog 41 [.row (l.map pairD)] [.d (.sc (.bool (heavyP l)))] := by
 refine T.fn [] Tryz.func41 ?_
 refine x_len ?_
 refine br (fun hc1 => ?y1) (fun hc1 => ?n1)
 case' n1 =>
  have h20 : l.length ≤ 20 := by omega
  refine xloopR (fb := []) T.ok (Nat.le_of_ble_eq_true rfl) [0] (fun (k : Nat) => [(3, .c (.d (.sc (.int .i64 (k : Nat)))))]) (fun k => k ≤ l.length ∧ (l.take k).any (fun p => decide (200 < p.1.size) || decide (200 < p.2.size)) = false ∧ l.length ≤ 20) (fun k => l.length - k) 0 ⟨Nat.zero_le _, ⟨rfl, h20⟩⟩ (x_ent (by first | rfl | (simp only [Tr.get]; simp; done)) trivial) ?_
  rintro k ⟨hk, hi⟩
  refine x_len ?_
  refine br (fun hc2 => ?y2) (fun hc2 => ?n2)
  case' y2 =>
   obtain ⟨p, hp⟩ := elem_at hc2
   have hkl := lt_len hp
   first | refine x_ix (by exact mapAt hp) ?_ | refine x_ixI (by exact mapAt hp) ?_
   refine x_len ?_
   refine br (fun hg3 => ?y3) (fun hg3 => ?n3)
   case' y3 =>
    refine brT ?_
   case' n3 =>
    first | refine x_ix (by exact mapAt hp) ?_ | refine x_ixI (by exact mapAt hp) ?_
    refine x_len ?_
    refine br (fun hc5 => ?y5) (fun hc5 => ?n5)
    case' n5 =>
     first | refine x_inc ?_ | refine x_add ?_ | refine x_bin rfl rfl ?_
     refine x_rnd (k + 1) ⟨lt_len hp, any_next hp hi.1 (by simp; omega), hi.2⟩ (by (try dsimp only); have := lt_len hp; omega) rfl (x_ent (by first | rfl | (simp only [Tr.get]; simp; done)) trivial) rfl
 all_goals (refine x_ret ?_; simp only [fitsL, fits, C.asD, and_true] <;> (refine scb ?_; first | (have hh := any_hit (f := fun p : ByteArray × ByteArray => decide (200 < p.1.size) || decide (200 < p.2.size)) hp (by simp; omega); unfold heavyP; rw [hh, Bool.or_true]; done) | (have hh := any_end (past_end (by assumption)) hi.1; unfold heavyP; rw [hh, Bool.or_false]; symm; simp only [decide_eq_true_eq, decide_eq_false_iff_not, Bool.not_eq_true', Bool.not_eq_false', Bool.and_eq_true, Bool.or_eq_true, Bool.or_eq_false_iff, Bool.and_eq_false_iff, beq_iff_eq, beq_eq_false_iff_ne, ne_eq, Bool.not_true, Bool.not_false, Bool.false_eq_true, Bool.true_eq_false] at * <;> omega) | (symm; unfold heavyP; simp only [decide_eq_true_eq, decide_eq_false_iff_not, Bool.not_eq_true', Bool.not_eq_false', Bool.and_eq_true, Bool.or_eq_true, Bool.or_eq_false_iff, Bool.and_eq_false_iff, beq_iff_eq, beq_eq_false_iff_ne, ne_eq, Bool.not_true, Bool.not_false, Bool.false_eq_true, Bool.true_eq_false] at * <;> omega)))

set_option maxHeartbeats 1000000 in
theorem refTable_any (l m : (List (ByteArray × ByteArray))) (hl : l.length ≤ 1000) (hm : m.length ≤ 1000) : Contract Tryz.prog 90 [.row (l.map pairD), .row (m.map pairD)] [.d (.sc (.bool (rightT l m)))] := by
 refine T.fn [] Tryz.func90 ?_
 refine x_len ?_
 refine br (fun hg1 => ?y1) (fun hg1 => ?n1)
 case' y1 =>
  refine brT ?_
 case' n1 =>
  refine x_len ?_
  refine br (fun hc3 => ?y3) (fun hc3 => ?n3)
  case' n3 =>
   have hlo : 1 ≤ l.length := by omega
   have hhi : l.length ≤ 6 := by omega
   refine xloopR (fb := []) T.ok (Nat.le_of_ble_eq_true rfl) [0, 1] (fun (k : Nat) => [(5, .c (.d (.sc (.int .i64 (k : Nat)))))]) (fun k => k ≤ l.length ∧ okT l m k = true ∧ 1 ≤ l.length ∧ l.length ≤ 6) (fun k => l.length - k) 0 ⟨Nat.zero_le _, ⟨okT_zero l m, hlo, hhi⟩⟩ (x_ent (by first | rfl | (simp only [Tr.get]; simp; done)) trivial) ?_
   rintro k ⟨hk, hi⟩
   refine x_len ?_
   refine br (fun hc4 => ?y4) (fun hc4 => ?n4)
   case' y4 =>
    obtain ⟨p, hp⟩ := elem_at hc4
    have hkl := lt_len hp
    refine And.intro ⟨T.mixed, by decide +kernel⟩ ?_
    first | refine x_ix (by exact mapAt hp) ?_ | refine x_ixI (by exact mapAt hp) ?_
    refine x_call T.en_91 (refName_any _) ?_
    refine br (fun hg5 => ?y5) (fun hg5 => ?n5)
    case' y5 =>
     refine brT ?_
     refine brT ?_
    case' n5 =>
     first | refine x_bnd ?_ | refine x_bndI ?_
     refine x_row ?_ (by first | exact strs_wide | exact pairs_wide | exact rs_wide | exact fD_wide | (simp [D.cells])) (hy := by first | exact take_fold | rfl)
     refine x_call T.en_117 (refFroms_any _ (by first | assumption | exact hx0.2.1 | exact hx0.2.2 | (rw [List.length_take]; omega))) ?_
     first | refine x_ix (by exact mapAt hp) ?_ | refine x_ixI (by exact mapAt hp) ?_
     refine x_call T.en_132 (refHas_any _ _ (by first | (have := froms_len (k := k) hl; omega) | (have : (froms m).length ≤ 1000 := by unfold froms; rw [List.length_map]; exact hm); omega)) ?_
     refine br (fun hg8 => ?y8) (fun hg8 => ?n8)
     case' y8 =>
      refine brT ?_
     case' n8 =>
      refine x_call T.en_117 (refFroms_any _ (by first | assumption | exact hx0.2.1 | exact hx0.2.2 | (rw [List.length_take]; omega))) ?_
      first | refine x_ix (by exact mapAt hp) ?_ | refine x_ixI (by exact mapAt hp) ?_
      refine x_call T.en_132 (refHas_any _ _ (by first | (have := froms_len (k := k) hl; omega) | (have : (froms m).length ≤ 1000 := by unfold froms; rw [List.length_map]; exact hm); omega)) ?_
      refine br (fun hc10 => ?y10) (fun hc10 => ?n10)
      case' n10 =>
       first | refine x_inc ?_ | refine x_add ?_ | refine x_bin rfl rfl ?_
       refine x_rnd (k + 1) ⟨lt_len hp, okT_next hp hi.1 (by simp_all) (by simp_all) (by simp_all), hi.2⟩ (by (try dsimp only); have := lt_len hp; omega) rfl (x_ent (by first | rfl | (simp only [Tr.get]; simp; done)) trivial) rfl
 all_goals (refine x_ret ?_; simp only [fitsL, fits, C.asD, and_true] <;> (refine scb ?_; first | (refine (rightT_short ?_).symm; omega; done) | (refine (rightT_long ?_).symm; omega; done) | exact (rightT_yes hi.2.1 hi.2.2 (past_end (by assumption)) hi.1).symm | (refine (rightT_no hp ?_).symm; simp_all; done)))

set_option maxHeartbeats 1000000 in
theorem rightTable_any (l m : (List (ByteArray × ByteArray))) (hl : l.length ≤ 1000) (hm : m.length ≤ 1000) : Contract Tryz.prog 130 [.row (l.map pairD), .row (m.map pairD)] [.d (.sc (.bool (rightT l m)))] := by
 refine T.fn [] Tryz.func130 ?_
 refine x_len ?_
 refine br (fun hg1 => ?y1) (fun hg1 => ?n1)
 case' y1 =>
  refine brT ?_
 case' n1 =>
  refine x_len ?_
  refine br (fun hc3 => ?y3) (fun hc3 => ?n3)
  case' n3 =>
   have hlo : 1 ≤ l.length := by omega
   have hhi : l.length ≤ 6 := by omega
   refine x_len ?_
   refine xloopR (fb := []) T.ok (Nat.le_of_ble_eq_true rfl) [0, 1, 19, 20] (fun (k : Nat) => [(21, .c (.d (.sc (.int .i64 (k : Nat)))))]) (fun k => k ≤ l.length ∧ okT l m k = true ∧ 1 ≤ l.length ∧ l.length ≤ 6) (fun k => l.length - k) 0 ⟨Nat.zero_le _, ⟨okT_zero l m, hlo, hhi⟩⟩ (x_ent (by first | rfl | (simp only [Tr.get]; simp; done)) trivial) ?_
   rintro k ⟨hk, hi⟩
   refine br (fun hc4 => ?y4) (fun hc4 => ?n4)
   case' y4 =>
    obtain ⟨p, hp⟩ := elem_at hc4
    have hkl := lt_len hp
    first | refine x_ix (by first | exact mapAt hp | exact mapAt hq) ?_ | refine x_ixI (by first | exact mapAt hp | exact mapAt hq) ?_
    refine x_call T.en_81 (name_any _) ?_
    refine br (fun hc5 => ?y5) (fun hc5 => ?n5)
    case' n5 =>
     first | refine x_bnd ?_ | refine x_bndI ?_
     refine x_row ?_ (by first | exact strs_wide | exact pairs_wide | exact rs_wide | exact fD_wide | (simp [D.cells])) (hy := by first | exact take_fold | rfl)
     refine x_len ?_
     refine xloopR (fb := []) T.ok (Nat.le_of_ble_eq_true rfl) [0, 1, 6, 19, 20, 21, 32, 33] (fun (j : Nat) => [(34, .c (.d (.sc (.int .i64 (j : Nat)))))]) (fun j => j ≤ (l.take k).length ∧ p.1 ∉ froms ((l.take k).take j)) (fun j => (l.take k).length - j) 0 ⟨Nat.zero_le _, by simp [froms]⟩ (x_ent (by first | rfl | (simp only [Tr.get]; simp; done)) trivial) ?_
     rintro j ⟨hjk, hj⟩
     have htl : (l.take k).length ≤ 6 := by rw [List.length_take]; omega
     refine br (fun hc6 => ?y6) (fun hc6 => ?n6)
     case' y6 =>
      obtain ⟨q, hq⟩ := elem_at hc6
      have hkl2 := lt_len hq
      first | refine x_ix (by first | exact mapAt hp | exact mapAt hq) ?_ | refine x_ixI (by first | exact mapAt hp | exact mapAt hq) ?_
      refine br (fun hc7 => ?y7) (fun hc7 => ?n7)
      case' n7 =>
       first | refine x_inc ?_ | refine x_add ?_ | refine x_bin rfl rfl ?_
       refine x_rnd (j + 1) ⟨lt_len hq, froms_no hq hj (by assumption)⟩ (by (try dsimp only); have := lt_len hq; omega) rfl (x_ent (by first | rfl | (simp only [Tr.get]; simp; done)) trivial) rfl
     case' n6 =>
      have hjn : ¬ p.1 ∈ froms (l.take k) := by have h0 := past_end hc6; rw [List.take_of_length_le h0] at hj; exact hj
      refine x_call T.en_131 (case_any _ _ hm) ?_
      refine br (fun hc8 => ?y8) (fun hc8 => ?n8)
      case' n8 =>
       first | refine x_inc ?_ | refine x_add ?_ | refine x_bin rfl rfl ?_
       refine x_rnd (k + 1) ⟨lt_len hp, okT_next hp hi.1 (by simp_all) hjn (by have := caseT_some (t := m) (s := p.2); simp_all), hi.2⟩ (by (try dsimp only); have := lt_len hp; omega) rfl (x_ent (by first | rfl | (simp only [Tr.get]; simp; done)) trivial) rfl
 all_goals (refine x_ret ?_; simp only [fitsL, fits, C.asD, and_true] <;> (refine scb ?_; first | (refine (rightT_short ?_).symm; omega; done) | (refine (rightT_long ?_).symm; omega; done) | exact (rightT_yes hi.2.1 hi.2.2 (past_end (by assumption)) hi.1).symm | (refine (rightT_no hp ?_).symm; have hm1 := froms_mem hq (by assumption); simp [hm1]; done) | (refine (rightT_no hp ?_).symm; have := caseT_some (t := m) (s := p.2); simp_all; done)))
end Go.Vm
end
section
namespace Go.Vm
open Go.RowKit Go.Proofs
set_option linter.unusedVariables false
set_option linter.unusedSimpArgs false
set_option maxRecDepth 10000

set_option maxHeartbeats 1000000 in
theorem lensSame_any (x y : LensD) (hx0 : okX x) : Contract Tryz.prog 49 [lD x, lD y] [.d (.sc (.bool (decide (x = y))))] := by
 refine T.fn [] Tryz.func49 ?_
 refine br (fun hg1 => ?y1) (fun hg1 => ?n1)
 case' y1 =>
  first | refine xeq_25e _ _ ?_ | refine xeq_25e _ noRef ?_ | refine xeq_25e noRef _ ?_
  refine br (fun hg2 => ?y2) (fun hg2 => ?n2)
  case' y2 =>
   refine br (fun hg3 => ?y3) (fun hg3 => ?n3)
   case' y3 =>
    refine br (fun hg4 => ?y4) (fun hg4 => ?n4)
    case' y4 =>
     refine br (fun hg5 => ?y5) (fun hg5 => ?n5)
     case' y5 =>
      refine x_call T.en_92 (fieldSame_any _ _ (by first | assumption | exact hx0.1)) ?_
      refine br (fun hg6 => ?y6) (fun hg6 => ?n6)
      case' y6 =>
       refine x_call T.en_93 (samePairs_any _ _ (by first | assumption | exact hx0.2.1 | exact hx0.2.2)) ?_
       refine br (fun hg7 => ?y7) (fun hg7 => ?n7)
       case' y7 =>
        refine x_call T.en_93 (samePairs_any _ _ (by first | assumption | exact hx0.2.1 | exact hx0.2.2)) ?_
      case' n6 =>
       refine brF ?_
     case' n5 =>
      refine brF ?_
      refine brF ?_
    case' n4 =>
     refine brF ?_
     refine brF ?_
     refine brF ?_
   case' n3 =>
    refine brF ?_
    refine brF ?_
    refine brF ?_
    refine brF ?_
  case' n2 =>
   refine brF ?_
   refine brF ?_
   refine brF ?_
   refine brF ?_
   refine brF ?_
 case' n1 =>
  refine brF ?_
  refine brF ?_
  refine brF ?_
  refine brF ?_
  refine brF ?_
  refine brF ?_
 all_goals (refine x_ret ?_; simp only [fitsL, fits, C.asD, and_true] <;> (refine scb ?_; clear hx0; cases x; cases y; simp_all))

set_option maxHeartbeats 1000000 in
theorem refLensSame_any (x y : LensD) (hx0 : okX x) : Contract Tryz.prog 57 [lD x, lD y] [.d (.sc (.bool (decide (x = y))))] := by
 refine T.fn [] Tryz.func57 ?_
 refine br (fun hg1 => ?y1) (fun hg1 => ?n1)
 case' y1 =>
  first | refine xeq_25e _ _ ?_ | refine xeq_25e _ noRef ?_ | refine xeq_25e noRef _ ?_
  refine br (fun hg2 => ?y2) (fun hg2 => ?n2)
  case' y2 =>
   refine br (fun hg3 => ?y3) (fun hg3 => ?n3)
   case' y3 =>
    refine br (fun hg4 => ?y4) (fun hg4 => ?n4)
    case' y4 =>
     refine br (fun hg5 => ?y5) (fun hg5 => ?n5)
     case' y5 =>
      refine x_call T.en_65 (refFieldSame_any _ _ (by first | assumption | exact hx0.1)) ?_
      refine br (fun hg6 => ?y6) (fun hg6 => ?n6)
      case' y6 =>
       refine x_call T.en_104 (refSamePairs_any _ _ (by first | assumption | exact hx0.2.1 | exact hx0.2.2)) ?_
       refine br (fun hg7 => ?y7) (fun hg7 => ?n7)
       case' y7 =>
        refine x_call T.en_104 (refSamePairs_any _ _ (by first | assumption | exact hx0.2.1 | exact hx0.2.2)) ?_
      case' n6 =>
       refine brF ?_
     case' n5 =>
      refine brF ?_
      refine brF ?_
    case' n4 =>
     refine brF ?_
     refine brF ?_
     refine brF ?_
   case' n3 =>
    refine brF ?_
    refine brF ?_
    refine brF ?_
    refine brF ?_
  case' n2 =>
   refine brF ?_
   refine brF ?_
   refine brF ?_
   refine brF ?_
   refine brF ?_
 case' n1 =>
  refine brF ?_
  refine brF ?_
  refine brF ?_
  refine brF ?_
  refine brF ?_
  refine brF ?_
 all_goals (refine x_ret ?_; simp only [fitsL, fits, C.asD, and_true] <;> (refine scb ?_; clear hx0; cases x; cases y; simp_all))
end Go.Vm
end
section
namespace Go.Vm
open Go.RowKit Go.Proofs
set_option linter.unusedVariables false
set_option linter.unusedSimpArgs false
set_option maxRecDepth 10000

theorem parts_a {x : LensD} (h : x.kind = 1 ∨ x.kind = 5) : partsL x = (⟨x.kind, x.at_, x.name, noB, 0, noField, [], []⟩, true) := by unfold partsL; rw [if_pos h]
theorem parts_b {x : LensD} (h : x.kind = 2 ∨ x.kind = 3) : partsL x = (⟨x.kind, noRef, noB, noB, 0, x.field, [], []⟩, true) := by unfold partsL; rw [if_neg (by omega), if_pos h]
theorem parts_c {x : LensD} (h : x.kind = 4) : partsL x = (⟨x.kind, x.at_, noB, noB, 0, noField, [], []⟩, true) := by unfold partsL; rw [if_neg (by omega), if_neg (by omega), if_pos h]
theorem parts_d {x : LensD} (h : x.kind = 6 ∨ x.kind = 9) : partsL x = (⟨x.kind, x.at_, x.name, x.other, x.factor, noField, [], []⟩, true) := by unfold partsL; rw [if_neg (by omega), if_neg (by omega), if_neg (by omega), if_pos h]
theorem parts_e {x : LensD} (h : x.kind = 7 ∨ x.kind = 10) : partsL x = (⟨x.kind, x.at_, noB, x.other, 0, noField, [], []⟩, true) := by unfold partsL; rw [if_neg (by omega), if_neg (by omega), if_neg (by omega), if_neg (by omega), if_pos h]
theorem parts_f {x : LensD} (h : x.kind = 8) : partsL x = (⟨x.kind, x.at_, x.name, x.other, 0, noField, x.forth, x.back⟩, true) := by unfold partsL; rw [if_neg (by omega), if_neg (by omega), if_neg (by omega), if_neg (by omega), if_neg (by omega), if_pos h]
theorem parts_g {x : LensD} (h : ¬ x.kind = 1 ∧ ¬ x.kind = 2 ∧ ¬ x.kind = 3 ∧ ¬ x.kind = 4 ∧ ¬ x.kind = 5 ∧ ¬ x.kind = 6 ∧ ¬ x.kind = 7 ∧ ¬ x.kind = 8 ∧ ¬ x.kind = 9 ∧ ¬ x.kind = 10) : partsL x = (noLens, false) := by unfold partsL; rw [if_neg (by omega), if_neg (by omega), if_neg (by omega), if_neg (by omega), if_neg (by omega), if_neg (by omega)]

set_option maxHeartbeats 1000000 in
theorem lensOwn_any (x : LensD) (hx0 : okX x) : Contract Tryz.prog 121 [lD x] [.d (lD x)] := by
 refine T.fn [] Tryz.func121 ?_
 have hl1 := hx0.2.1
 have hl2 := hx0.2.2
 refine x_call T.en_119 (fieldOwn_any _ (by first | assumption | exact hx0.1)) ?_
 first | refine x_app ?_ (by first | exact strs_wide | exact pairs_wide | exact rs_wide | exact fD_wide | (simp [D.cells])) | refine x_appN ?_ (by first | exact strs_wide | exact pairs_wide | exact rs_wide | exact fD_wide | (simp [D.cells]))
 first | refine x_app ?_ (by first | exact strs_wide | exact pairs_wide | exact rs_wide | exact fD_wide | (simp [D.cells])) | refine x_appN ?_ (by first | exact strs_wide | exact pairs_wide | exact rs_wide | exact fD_wide | (simp [D.cells]))
 all_goals (refine x_ret ?_; simp only [fitsL, fits, C.asD, and_true] <;> (rfl))

set_option maxHeartbeats 1000000 in
theorem refLensHeavy_any (x : LensD) : Contract Tryz.prog 7 [lD x] [.d (.sc (.bool (heavyL x)))] := by
 refine T.fn [] Tryz.func7 ?_
 refine x_len ?_
 refine br (fun hg1 => ?y1) (fun hg1 => ?n1)
 case' y1 =>
  refine brT ?_
  refine brT ?_
  refine brT ?_
  refine brT ?_
  refine brT ?_
 case' n1 =>
  refine x_len ?_
  refine br (fun hg7 => ?y7) (fun hg7 => ?n7)
  case' y7 =>
   refine brT ?_
   refine brT ?_
   refine brT ?_
   refine brT ?_
  case' n7 =>
   refine x_len ?_
   refine br (fun hg12 => ?y12) (fun hg12 => ?n12)
   case' y12 =>
    refine brT ?_
    refine brT ?_
    refine brT ?_
   case' n12 =>
    refine x_len ?_
    refine br (fun hg16 => ?y16) (fun hg16 => ?n16)
    case' y16 =>
     refine brT ?_
     refine brT ?_
    case' n16 =>
     refine x_call T.en_40 (refFieldHeavy_any _) ?_
     refine br (fun hg19 => ?y19) (fun hg19 => ?n19)
     case' y19 =>
      refine brT ?_
     case' n19 =>
      refine x_call T.en_41 (heavyPairs_any _) ?_
      refine br (fun hg21 => ?y21) (fun hg21 => ?n21)
      case' n21 =>
       refine x_call T.en_41 (heavyPairs_any _) ?_
 all_goals (refine x_ret ?_; simp only [fitsL, fits, C.asD, and_true] <;> (refine scb ?_; symm; unfold heavyL; first | (simp_all; done) | (simp_all <;> omega)))

set_option maxHeartbeats 1000000 in
theorem parts_any (x : LensD) (hx0 : okX x) : Contract Tryz.prog 78 [lD x] [.d (lD (partsL x).1), .d (.sc (.bool ((partsL x).2)))] := by
 refine T.fn [] Tryz.func78 ?_
 refine br (fun hc1 => ?y1) (fun hc1 => ?n1)
 case' y1 =>
  have hkkind_1 := hc1
  refine brT ?_
  refine And.intro ⟨T.mixed, by decide +kernel⟩ ?_
 case' n1 =>
  have hnkind_1 := hc1
  refine br (fun hc3 => ?y3) (fun hc3 => ?n3)
  case' y3 =>
   have hkkind_5 := hc3
   refine And.intro ⟨T.mixed, by decide +kernel⟩ ?_
  case' n3 =>
   have hnkind_5 := hc3
   refine br (fun hc4 => ?y4) (fun hc4 => ?n4)
   case' y4 =>
    have hkkind_2 := hc4
    refine brT ?_
   case' n4 =>
    have hnkind_2 := hc4
    refine br (fun hc6 => ?y6) (fun hc6 => ?n6)
    case' y6 =>
     have hkkind_3 := hc6
    case' n6 =>
     have hnkind_3 := hc6
     refine br (fun hc7 => ?y7) (fun hc7 => ?n7)
     case' y7 =>
      have hkkind_4 := hc7
     case' n7 =>
      have hnkind_4 := hc7
      refine br (fun hc8 => ?y8) (fun hc8 => ?n8)
      case' y8 =>
       have hkkind_6 := hc8
       refine brT ?_
       refine And.intro ⟨T.mixed, by decide +kernel⟩ ?_
      case' n8 =>
       have hnkind_6 := hc8
       refine br (fun hc10 => ?y10) (fun hc10 => ?n10)
       case' y10 =>
        have hkkind_9 := hc10
        refine And.intro ⟨T.mixed, by decide +kernel⟩ ?_
       case' n10 =>
        have hnkind_9 := hc10
        refine br (fun hc11 => ?y11) (fun hc11 => ?n11)
        case' y11 =>
         have hkkind_7 := hc11
         refine brT ?_
         refine And.intro ⟨T.mixed, by decide +kernel⟩ ?_
        case' n11 =>
         have hnkind_7 := hc11
         refine br (fun hc13 => ?y13) (fun hc13 => ?n13)
         case' y13 =>
          have hkkind_10 := hc13
          refine And.intro ⟨T.mixed, by decide +kernel⟩ ?_
         case' n13 =>
          have hnkind_10 := hc13
          refine br (fun hc14 => ?y14) (fun hc14 => ?n14)
          case' y14 =>
           have hkkind_8 := hc14
           refine And.intro ⟨T.mixed, by decide +kernel⟩ ?_
           refine And.intro ⟨T.mixed, by decide +kernel⟩ ?_
          case' n14 =>
           have hnkind_8 := hc14
 all_goals (refine x_ret ?_; simp only [fitsL, fits, C.asD, and_true] <;> (first | (rw [parts_a (by omega)]; exact ⟨by kernel_rfl, by kernel_rfl⟩) | (rw [parts_b (by omega)]; exact ⟨by kernel_rfl, by kernel_rfl⟩) | (rw [parts_c (by omega)]; exact ⟨by kernel_rfl, by kernel_rfl⟩) | (rw [parts_d (by omega)]; exact ⟨by kernel_rfl, by kernel_rfl⟩) | (rw [parts_e (by omega)]; exact ⟨by kernel_rfl, by kernel_rfl⟩) | (rw [parts_f (by omega)]; exact ⟨by kernel_rfl, by kernel_rfl⟩) | (rw [parts_g (by omega)]; exact ⟨by kernel_rfl, by kernel_rfl⟩)))

set_option maxHeartbeats 1000000 in
theorem rightTables_any (x : LensD) (hx0 : okX x) : Contract Tryz.prog 84 [lD x] [.d (.sc (.bool (rightTb x)))] := by
 refine T.fn [] Tryz.func84 ?_
 refine x_call T.en_81 (name_any _) ?_
 refine br (fun hg1 => ?y1) (fun hg1 => ?n1)
 case' y1 =>
  refine brT ?_
  refine brT ?_
 case' n1 =>
  refine x_call T.en_130 (rightTable_any _ _ (by first | exact hx0.2.1 | exact hx0.2.2) (by first | exact hx0.2.1 | exact hx0.2.2)) ?_
  refine br (fun hg4 => ?y4) (fun hg4 => ?n4)
  case' y4 =>
   refine brT ?_
  case' n4 =>
   refine x_call T.en_130 (rightTable_any _ _ (by first | exact hx0.2.1 | exact hx0.2.2) (by first | exact hx0.2.1 | exact hx0.2.2)) ?_
   refine br (fun hc6 => ?y6) (fun hc6 => ?n6)
   case' n6 =>
    refine x_call T.en_131 (case_any _ _ (by first | assumption | exact hx0.2.1 | exact hx0.2.2)) ?_
    refine br (fun hg7 => ?y7) (fun hg7 => ?n7)
    case' y7 =>
     refine brT ?_
    case' n7 =>
     refine br (fun hc9 => ?y9) (fun hc9 => ?n9)
     case' n9 =>
      refine x_call T.en_131 (case_any _ _ (by first | assumption | exact hx0.2.1 | exact hx0.2.2)) ?_
      refine br (fun hg10 => ?y10) (fun hg10 => ?n10)
 all_goals (refine x_ret ?_; simp only [fitsL, fits, C.asD, and_true] <;> (refine scb ?_; unfold rightTb; first | (simp_all; done) | (rcases hcf : caseT x.forth x.name with ⟨a, b⟩; rcases hcb : caseT x.back x.other with ⟨c, d⟩; simp_all; done)))
end Go.Vm
end
section
namespace Go.Vm
open Go.RowKit Go.Proofs
set_option linter.unusedVariables false
set_option linter.unusedSimpArgs false
set_option maxRecDepth 10000

set_option maxHeartbeats 1000000 in
theorem lensRight_any (x : LensD) (hx0 : okX x) : Contract Tryz.prog 46 [lD x] [.d (.sc (.bool (rightL x)))] := by
 refine T.fn [] Tryz.func46 ?_
 refine x_call T.en_78 (parts_any _ hx0) ?_
 refine And.intro (fun hg1 => ?y1) (fun hg1 => ?n1)
 case' y1 =>
  refine brT ?_
 case' n1 =>
  refine x_call T.en_49 (lensSame_any _ _ (by first | assumption | exact hx0)) ?_
  refine And.intro (fun hc3 => ?y3) (fun hc3 => ?n3)
  case' n3 =>
   refine And.intro (fun hg4 => ?y4) (fun hg4 => ?n4)
   case' y4 =>
    have hkkind_2 := hg4
    refine brT ?_
    refine x_call T.en_79 (fieldRight_any _ (by first | assumption | exact hx0.1)) ?_
   case' n4 =>
    have hnkind_2 := hg4
    refine And.intro (fun hc6 => ?y6) (fun hc6 => ?n6)
    case' y6 =>
     have hkkind_3 := hc6
     refine x_call T.en_79 (fieldRight_any _ (by first | assumption | exact hx0.1)) ?_
    case' n6 =>
     have hnkind_3 := hc6
     refine x_call T.en_80 (place_any _) ?_
     refine And.intro (fun hc7 => ?y7) (fun hc7 => ?n7)
     case' n7 =>
      refine And.intro (fun hc8 => ?y8) (fun hc8 => ?n8)
      case' y8 =>
       have hkkind_1 := hc8
       refine x_call T.en_81 (name_any _) ?_
      case' n8 =>
       have hnkind_1 := hc8
       refine And.intro (fun hc9 => ?y9) (fun hc9 => ?n9)
       case' y9 =>
        have hkkind_4 := hc9
       case' n9 =>
        have hnkind_4 := hc9
        refine And.intro (fun hc10 => ?y10) (fun hc10 => ?n10)
        case' y10 =>
         have hkkind_5 := hc10
         refine And.intro (fun hg11 => ?y11) (fun hg11 => ?n11)
         case' y11 =>
          refine x_call T.en_81 (name_any _) ?_
        case' n10 =>
         have hnkind_5 := hc10
         refine And.intro (fun hc12 => ?y12) (fun hc12 => ?n12)
         case' y12 =>
          have hkkind_6 := hc12
          refine brT ?_
          refine x_call T.en_81 (name_any _) ?_
          refine And.intro (fun hg14 => ?y14) (fun hg14 => ?n14)
          case' y14 =>
           refine x_call T.en_81 (name_any _) ?_
           refine And.intro (fun hg15 => ?y15) (fun hg15 => ?n15)
           case' y15 =>
            refine And.intro (fun hg16 => ?y16) (fun hg16 => ?n16)
            case' y16 =>
             refine x_call T.en_82 (factor_any _) ?_
           case' n15 =>
            refine brF ?_
          case' n14 =>
           refine brF ?_
           refine brF ?_
         case' n12 =>
          have hnkind_6 := hc12
          refine And.intro (fun hc20 => ?y20) (fun hc20 => ?n20)
          case' y20 =>
           have hkkind_9 := hc20
           refine x_call T.en_81 (name_any _) ?_
           refine And.intro (fun hg21 => ?y21) (fun hg21 => ?n21)
           case' y21 =>
            refine x_call T.en_81 (name_any _) ?_
            refine And.intro (fun hg22 => ?y22) (fun hg22 => ?n22)
            case' y22 =>
             refine And.intro (fun hg23 => ?y23) (fun hg23 => ?n23)
             case' y23 =>
              refine x_call T.en_82 (factor_any _) ?_
            case' n22 =>
             refine brF ?_
           case' n21 =>
            refine brF ?_
            refine brF ?_
          case' n20 =>
           have hnkind_9 := hc20
           refine And.intro (fun hc27 => ?y27) (fun hc27 => ?n27)
           case' y27 =>
            have hkkind_7 := hc27
            refine brT ?_
            refine x_call T.en_83 (text_any _) ?_
           case' n27 =>
            have hnkind_7 := hc27
            refine And.intro (fun hc29 => ?y29) (fun hc29 => ?n29)
            case' y29 =>
             have hkkind_10 := hc29
             refine x_call T.en_83 (text_any _) ?_
            case' n29 =>
             have hnkind_10 := hc29
             refine x_call T.en_84 (rightTables_any _ hx0) ?_
 all_goals (refine x_ret ?_; simp only [fitsL, fits, C.asD, and_true] <;> (refine scb ?_; rw [← rightLp_eq, rightLp_q]; generalize (partsL x).2 = b2 at *; generalize decide (x = (partsL x).1) = b1 at *; unfold rightLq; first | (simp_all; done) | (simp_all [emp]; done) | grind))

set_option maxHeartbeats 1000000 in
theorem tables_any (x : LensD) : Contract Tryz.prog 85 [lD x] [.d (.sc (.bool (!(decide (x.forth.length = 0) && decide (x.back.length = 0)))))] := by
 refine T.fn [] Tryz.func85 ?_
 refine x_len ?_
 refine br (fun hg1 => ?y1) (fun hg1 => ?n1)
 case' n1 =>
  refine x_len ?_
 all_goals (refine x_ret ?_; simp only [fitsL, fits, C.asD, and_true] <;> (refine scb ?_; first | (symm; simp only [decide_eq_true_eq, decide_eq_false_iff_not, Bool.not_eq_true', Bool.not_eq_false', Bool.and_eq_true, Bool.or_eq_true, Bool.or_eq_false_iff, Bool.and_eq_false_iff, beq_iff_eq, beq_eq_false_iff_ne, ne_eq, Bool.not_true, Bool.not_false, Bool.false_eq_true, Bool.true_eq_false] at * <;> omega) | (rw [Bool.eq_iff_iff]; simp only [decide_eq_true_eq, decide_eq_false_iff_not, Bool.not_eq_true', Bool.not_eq_false', Bool.and_eq_true, Bool.or_eq_true, Bool.or_eq_false_iff, Bool.and_eq_false_iff, beq_iff_eq, beq_eq_false_iff_ne, ne_eq, Bool.not_true, Bool.not_false, Bool.false_eq_true, Bool.true_eq_false] at * <;> omega)))

set_option maxHeartbeats 1000000 in
theorem none_any (x : LensD) (hx0 : okX x) : Contract Tryz.prog 88 [lD x] [.d (.sc (.bool (decide (x.field = noField))))] := by
 refine T.fn [] Tryz.func88 ?_
 refine x_call T.en_65 (refFieldSame_any x.field noField hx0.1) ?_
 all_goals (refine x_ret ?_; simp only [fitsL, fits, C.asD, and_true] <;> (rfl))

set_option maxHeartbeats 1000000 in
theorem refLensRight_any (x : LensD) (hx0 : okX x) : Contract Tryz.prog 48 [lD x] [.d (.sc (.bool (rightL x)))] := by
 refine T.fn [] Tryz.func48 ?_
 refine br (fun hg1 => ?y1) (fun hg1 => ?n1)
 case' y1 =>
  have hkkind_2 := hg1
  refine brT ?_
  first | refine xeq_25e _ _ ?_ | refine xeq_25e _ noRef ?_ | refine xeq_25e noRef _ ?_
  refine br (fun hg3 => ?y3) (fun hg3 => ?n3)
  case' y3 =>
   refine br (fun hg4 => ?y4) (fun hg4 => ?n4)
   case' y4 =>
    refine br (fun hg5 => ?y5) (fun hg5 => ?n5)
    case' y5 =>
     refine br (fun hg6 => ?y6) (fun hg6 => ?n6)
     case' y6 =>
      refine x_call T.en_85 (tables_any _) ?_
      refine br (fun hg7 => ?y7) (fun hg7 => ?n7)
      case' y7 =>
       refine x_call T.en_86 (refFieldRight_any _ (by first | assumption | exact hx0.1)) ?_
     case' n6 =>
      refine brF ?_
    case' n5 =>
     refine brF ?_
     refine brF ?_
   case' n4 =>
    refine brF ?_
    refine brF ?_
    refine brF ?_
  case' n3 =>
   refine brF ?_
   refine brF ?_
   refine brF ?_
   refine brF ?_
 case' n1 =>
  have hnkind_2 := hg1
  refine br (fun hc18 => ?y18) (fun hc18 => ?n18)
  case' y18 =>
   have hkkind_3 := hc18
   first | refine xeq_25e _ _ ?_ | refine xeq_25e _ noRef ?_ | refine xeq_25e noRef _ ?_
   refine br (fun hg19 => ?y19) (fun hg19 => ?n19)
   case' y19 =>
    refine br (fun hg20 => ?y20) (fun hg20 => ?n20)
    case' y20 =>
     refine br (fun hg21 => ?y21) (fun hg21 => ?n21)
     case' y21 =>
      refine br (fun hg22 => ?y22) (fun hg22 => ?n22)
      case' y22 =>
       refine x_call T.en_85 (tables_any _) ?_
       refine br (fun hg23 => ?y23) (fun hg23 => ?n23)
       case' y23 =>
        refine x_call T.en_86 (refFieldRight_any _ (by first | assumption | exact hx0.1)) ?_
      case' n22 =>
       refine brF ?_
     case' n21 =>
      refine brF ?_
      refine brF ?_
    case' n20 =>
     refine brF ?_
     refine brF ?_
     refine brF ?_
   case' n19 =>
    refine brF ?_
    refine brF ?_
    refine brF ?_
    refine brF ?_
  case' n18 =>
   have hnkind_3 := hc18
   refine x_call T.en_87 (refPlace_any _) ?_
   refine br (fun hg34 => ?y34) (fun hg34 => ?n34)
   case' y34 =>
    refine brT ?_
   case' n34 =>
    refine x_call T.en_88 (none_any _ hx0) ?_
    refine br (fun hc36 => ?y36) (fun hc36 => ?n36)
    case' n36 =>
     refine br (fun hc37 => ?y37) (fun hc37 => ?n37)
     case' y37 =>
      have hkkind_8 := hc37
      refine x_call T.en_89 (refCase_any _ _ (by first | assumption | exact hx0.2.1 | exact hx0.2.2)) ?_
      refine x_call T.en_89 (refCase_any _ _ (by first | assumption | exact hx0.2.1 | exact hx0.2.2)) ?_
      refine br (fun hg38 => ?y38) (fun hg38 => ?n38)
      case' y38 =>
       refine x_call T.en_90 (refTable_any _ _ (by first | exact hx0.2.1 | exact hx0.2.2) (by first | exact hx0.2.1 | exact hx0.2.2)) ?_
       refine br (fun hg39 => ?y39) (fun hg39 => ?n39)
       case' y39 =>
        refine x_call T.en_90 (refTable_any _ _ (by first | exact hx0.2.1 | exact hx0.2.2) (by first | exact hx0.2.1 | exact hx0.2.2)) ?_
        refine br (fun hg40 => ?y40) (fun hg40 => ?n40)
        case' y40 =>
         refine br (fun hg41 => ?y41) (fun hg41 => ?n41)
         case' y41 =>
          refine br (fun hg42 => ?y42) (fun hg42 => ?n42)
          case' y42 =>
           refine br (fun hg43 => ?y43) (fun hg43 => ?n43)
          case' n42 =>
           refine brF ?_
         case' n41 =>
          refine brF ?_
          refine brF ?_
        case' n40 =>
         refine brF ?_
         refine brF ?_
         refine brF ?_
       case' n39 =>
        refine brF ?_
        refine brF ?_
        refine brF ?_
        refine brF ?_
      case' n38 =>
       refine brF ?_
       refine brF ?_
       refine brF ?_
       refine brF ?_
       refine brF ?_
     case' n37 =>
      have hnkind_8 := hc37
      refine x_call T.en_85 (tables_any _) ?_
      refine br (fun hc59 => ?y59) (fun hc59 => ?n59)
      case' n59 =>
       refine br (fun hg60 => ?y60) (fun hg60 => ?n60)
       case' y60 =>
        have hkkind_6 := hg60
        refine brT ?_
        refine x_call T.en_91 (refName_any _) ?_
        refine br (fun hg62 => ?y62) (fun hg62 => ?n62)
        case' y62 =>
         refine x_call T.en_91 (refName_any _) ?_
         refine br (fun hg63 => ?y63) (fun hg63 => ?n63)
         case' y63 =>
          refine br (fun hg64 => ?y64) (fun hg64 => ?n64)
          case' y64 =>
           refine br (fun hg65 => ?y65) (fun hg65 => ?n65)
          case' n64 =>
           refine brF ?_
         case' n63 =>
          refine brF ?_
          refine brF ?_
        case' n62 =>
         refine brF ?_
         refine brF ?_
         refine brF ?_
       case' n60 =>
        have hnkind_6 := hg60
        refine br (fun hc72 => ?y72) (fun hc72 => ?n72)
        case' y72 =>
         have hkkind_9 := hc72
         refine x_call T.en_91 (refName_any _) ?_
         refine br (fun hg73 => ?y73) (fun hg73 => ?n73)
         case' y73 =>
          refine x_call T.en_91 (refName_any _) ?_
          refine br (fun hg74 => ?y74) (fun hg74 => ?n74)
          case' y74 =>
           refine br (fun hg75 => ?y75) (fun hg75 => ?n75)
           case' y75 =>
            refine br (fun hg76 => ?y76) (fun hg76 => ?n76)
           case' n75 =>
            refine brF ?_
          case' n74 =>
           refine brF ?_
           refine brF ?_
         case' n73 =>
          refine brF ?_
          refine brF ?_
          refine brF ?_
        case' n72 =>
         have hnkind_9 := hc72
         refine br (fun hc83 => ?y83) (fun hc83 => ?n83)
         case' n83 =>
          refine br (fun hg84 => ?y84) (fun hg84 => ?n84)
          case' y84 =>
           have hkkind_7 := hg84
           refine brT ?_
           refine br (fun hg86 => ?y86) (fun hg86 => ?n86)
           case' y86 =>
            refine x_len ?_
          case' n84 =>
           have hnkind_7 := hg84
           refine br (fun hc87 => ?y87) (fun hc87 => ?n87)
           case' y87 =>
            have hkkind_10 := hc87
            refine br (fun hg88 => ?y88) (fun hg88 => ?n88)
            case' y88 =>
             refine x_len ?_
           case' n87 =>
            have hnkind_10 := hc87
            refine br (fun hc89 => ?y89) (fun hc89 => ?n89)
            case' n89 =>
             refine br (fun hc90 => ?y90) (fun hc90 => ?n90)
             case' y90 =>
              have hkkind_1 := hc90
              refine x_call T.en_91 (refName_any _) ?_
             case' n90 =>
              have hnkind_1 := hc90
              refine br (fun hc91 => ?y91) (fun hc91 => ?n91)
              case' y91 =>
               have hkkind_4 := hc91
               refine br (fun hg92 => ?y92) (fun hg92 => ?n92)
              case' n91 =>
               have hnkind_4 := hc91
               refine br (fun hg93 => ?y93) (fun hg93 => ?n93)
               case' y93 =>
                have hkkind_5 := hg93
                refine br (fun hg94 => ?y94) (fun hg94 => ?n94)
                case' y94 =>
                 refine x_call T.en_91 (refName_any _) ?_
               case' n93 =>
                have hnkind_5 := hg93
                refine brF ?_
 all_goals (refine x_ret ?_; simp only [fitsL, fits, C.asD, and_true] <;> (refine scb ?_; unfold rightL; first | (simp_all; done) | (simp_all [emp]; done) | (rcases hcf : caseT x.forth x.name with ⟨a, b⟩; rcases hcb : caseT x.back x.other with ⟨c, d⟩; simp_all; done) | grind))
end Go.Vm
end
section
namespace Go.Vm
open Go.RowKit Go.Proofs
set_option linter.unusedVariables false
set_option linter.unusedSimpArgs false
set_option maxRecDepth 10000

theorem goes_2 {x : LensD} (h : x.kind = 2) : goesL x = [] := by simp [goesL, h]
theorem goes_3 {x : LensD} (h : x.kind = 3) : goesL x = [x.field.at_] := by simp [goesL, h]
theorem goes_9 {x : LensD} (h : x.kind = 9) : goesL x = [named x.at_ x.name, named x.at_ x.other] := by simp [goesL, h]
theorem goes_o {x : LensD} (h2 : ¬ x.kind = 2) (h3 : ¬ x.kind = 3) (h9 : ¬ x.kind = 9) : goesL x = [x.at_] := by simp [goesL, h2, h3, h9]
theorem comes_2 {x : LensD} (h : x.kind = 2) : comesL x = [x.field.at_] := by simp [comesL, h]
theorem comes_3 {x : LensD} (h : x.kind = 3) : comesL x = [] := by simp [comesL, h]
theorem comes_6 {x : LensD} (h : x.kind = 6) : comesL x = [named x.at_ x.name, named x.at_ x.other] := by simp [comesL, h]
theorem comes_1 {x : LensD} (h : x.kind = 1) : comesL x = [named x.at_ x.name] := by simp [comesL, h]
theorem comes_4 {x : LensD} (h : x.kind = 4) : comesL x = [⟨x.at_.scope, noB, x.at_.name⟩] := by simp [comesL, h]
theorem comes_5 {x : LensD} (h : x.kind = 5) : comesL x = [⟨x.at_.scope, x.name, x.at_.name⟩] := by simp [comesL, h]
theorem comes_o {x : LensD} (h1 : ¬ x.kind = 1) (h2 : ¬ x.kind = 2) (h3 : ¬ x.kind = 3) (h4 : ¬ x.kind = 4) (h5 : ¬ x.kind = 5) (h6 : ¬ x.kind = 6) : comesL x = [x.at_] := by simp [comesL, h1, h2, h3, h4, h5, h6]

set_option maxHeartbeats 1000000 in
theorem named_any (r : RefD) (s : ByteArray) : Contract Tryz.prog 140 [rD r, .sc (.string s)] [.d (rD (named r s))] := by
 refine T.fn [] Tryz.func140 ?_
 all_goals (refine x_ret ?_; simp only [fitsL, fits, C.asD, and_true] <;> (rfl))

set_option maxHeartbeats 1000000 in
theorem beside_any (r : RefD) (s : ByteArray) : Contract Tryz.prog 167 [rD r, .sc (.string s)] [.d (rD (named r s))] := by
 refine T.fn [] Tryz.func167 ?_
 all_goals (refine x_ret ?_; simp only [fitsL, fits, C.asD, and_true] <;> (rfl))

set_option maxHeartbeats 1000000 in
theorem lensGoes_any (x : LensD) (hx0 : okX x) : Contract Tryz.prog 146 [lD x] [.d (.row ((if rightL x = true then goesL x else []).map rD))] := by
 refine T.fn [] Tryz.func146 ?_
 refine x_call T.en_46 (lensRight_any _ hx0) ?_
 refine br (fun hc1 => ?y1) (fun hc1 => ?n1)
 case' y1 =>
  have hr0 : ¬ rightL x = true := by simpa using hc1
 case' n1 =>
  have hr1 : rightL x = true := by simpa using hc1
  refine br (fun hc2 => ?y2) (fun hc2 => ?n2)
  case' y2 =>
   have hkkind_2 := hc2
  case' n2 =>
   have hnkind_2 := hc2
   refine br (fun hc3 => ?y3) (fun hc3 => ?n3)
   case' y3 =>
    have hkkind_3 := hc3
   case' n3 =>
    have hnkind_3 := hc3
    refine br (fun hc4 => ?y4) (fun hc4 => ?n4)
    case' y4 =>
     have hkkind_9 := hc4
     refine And.intro ⟨T.mixed, by decide +kernel⟩ ?_
     refine x_call T.en_167 (beside_any _ _) ?_
     refine x_call T.en_167 (beside_any _ _) ?_
    case' n4 =>
     have hnkind_9 := hc4
 all_goals (refine x_ret ?_; simp only [fitsL, fits, C.asD, and_true] <;> (first | (rw [if_neg hr0]; rfl) | (rw [if_pos hr1, goes_2 hkkind_2]; rfl) | (rw [if_pos hr1, goes_3 hkkind_3]; rfl) | (rw [if_pos hr1, goes_9 hkkind_9]; rfl) | (rw [if_pos hr1, goes_o hnkind_2 hnkind_3 hnkind_9]; rfl)))

set_option maxHeartbeats 1000000 in
theorem lensComes_any (x : LensD) (hx0 : okX x) : Contract Tryz.prog 165 [lD x] [.d (.row ((if rightL x = true then comesL x else []).map rD))] := by
 refine T.fn [] Tryz.func165 ?_
 refine x_call T.en_46 (lensRight_any _ hx0) ?_
 refine br (fun hc1 => ?y1) (fun hc1 => ?n1)
 case' y1 =>
  have hr0 : ¬ rightL x = true := by simpa using hc1
 case' n1 =>
  have hr1 : rightL x = true := by simpa using hc1
  refine br (fun hc2 => ?y2) (fun hc2 => ?n2)
  case' y2 =>
   have hkkind_1 := hc2
   refine x_call T.en_167 (beside_any _ _) ?_
  case' n2 =>
   have hnkind_1 := hc2
   refine br (fun hc3 => ?y3) (fun hc3 => ?n3)
   case' y3 =>
    have hkkind_2 := hc3
   case' n3 =>
    have hnkind_2 := hc3
    refine br (fun hc4 => ?y4) (fun hc4 => ?n4)
    case' y4 =>
     have hkkind_3 := hc4
    case' n4 =>
     have hnkind_3 := hc4
     refine br (fun hc5 => ?y5) (fun hc5 => ?n5)
     case' y5 =>
      have hkkind_4 := hc5
     case' n5 =>
      have hnkind_4 := hc5
      refine br (fun hc6 => ?y6) (fun hc6 => ?n6)
      case' y6 =>
       have hkkind_5 := hc6
      case' n6 =>
       have hnkind_5 := hc6
       refine br (fun hc7 => ?y7) (fun hc7 => ?n7)
       case' y7 =>
        have hkkind_6 := hc7
        refine And.intro ⟨T.mixed, by decide +kernel⟩ ?_
        refine x_call T.en_167 (beside_any _ _) ?_
        refine x_call T.en_167 (beside_any _ _) ?_
       case' n7 =>
        have hnkind_6 := hc7
 all_goals (refine x_ret ?_; simp only [fitsL, fits, C.asD, and_true] <;> (first | (rw [if_neg hr0]; rfl) | (rw [if_pos hr1, comes_2 hkkind_2]; rfl) | (rw [if_pos hr1, comes_3 hkkind_3]; rfl) | (rw [if_pos hr1, comes_6 hkkind_6]; rfl) | (rw [if_pos hr1, comes_1 hkkind_1]; rfl) | (rw [if_pos hr1, comes_4 hkkind_4]; rfl) | (rw [if_pos hr1, comes_5 hkkind_5]; rfl) | (rw [if_pos hr1, comes_o hnkind_1 hnkind_2 hnkind_3 hnkind_4 hnkind_5 hnkind_6]; rfl)))

set_option maxHeartbeats 1000000 in
theorem refGoes_any (x : LensD) : Contract Tryz.prog 110 [lD x] [.d (.row ((goesL x).map rD))] := by
 refine T.fn [] Tryz.func110 ?_
 refine br (fun hc1 => ?y1) (fun hc1 => ?n1)
 case' y1 =>
  have hkkind_2 := hc1
 case' n1 =>
  have hnkind_2 := hc1
  refine br (fun hc2 => ?y2) (fun hc2 => ?n2)
  case' y2 =>
   have hkkind_3 := hc2
  case' n2 =>
   have hnkind_3 := hc2
   refine br (fun hc3 => ?y3) (fun hc3 => ?n3)
   case' y3 =>
    have hkkind_9 := hc3
    refine And.intro ⟨T.mixed, by decide +kernel⟩ ?_
    refine x_call T.en_140 (named_any _ _) ?_
    refine x_call T.en_140 (named_any _ _) ?_
   case' n3 =>
    have hnkind_9 := hc3
 all_goals (refine x_ret ?_; simp only [fitsL, fits, C.asD, and_true] <;> (first | (rw [goes_2 hkkind_2]; rfl) | (rw [goes_3 hkkind_3]; rfl) | (rw [goes_9 hkkind_9]; rfl) | (rw [goes_o hnkind_2 hnkind_3 hnkind_9]; rfl)))

set_option maxHeartbeats 1000000 in
theorem refComes_any (x : LensD) : Contract Tryz.prog 113 [lD x] [.d (.row ((comesL x).map rD))] := by
 refine T.fn [] Tryz.func113 ?_
 refine br (fun hc1 => ?y1) (fun hc1 => ?n1)
 case' y1 =>
  have hkkind_2 := hc1
 case' n1 =>
  have hnkind_2 := hc1
  refine br (fun hc2 => ?y2) (fun hc2 => ?n2)
  case' y2 =>
   have hkkind_3 := hc2
  case' n2 =>
   have hnkind_3 := hc2
   refine br (fun hc3 => ?y3) (fun hc3 => ?n3)
   case' y3 =>
    have hkkind_6 := hc3
    refine And.intro ⟨T.mixed, by decide +kernel⟩ ?_
    refine x_call T.en_140 (named_any _ _) ?_
    refine x_call T.en_140 (named_any _ _) ?_
   case' n3 =>
    have hnkind_6 := hc3
    refine br (fun hc4 => ?y4) (fun hc4 => ?n4)
    case' y4 =>
     have hkkind_1 := hc4
     refine x_call T.en_140 (named_any _ _) ?_
    case' n4 =>
     have hnkind_1 := hc4
     refine br (fun hc5 => ?y5) (fun hc5 => ?n5)
     case' y5 =>
      have hkkind_4 := hc5
      refine br (fun hc6 => ?y6) (fun hc6 => ?n6)
      case' y6 =>
       exfalso; omega
      case' n6 =>
       have hnkind_5 := hc6
     case' n5 =>
      have hnkind_4 := hc5
      refine br (fun hc7 => ?y7) (fun hc7 => ?n7)
      case' y7 =>
       have hkkind_5 := hc7
      case' n7 =>
       have hnkind_5 := hc7
 all_goals (refine x_ret ?_; simp only [fitsL, fits, C.asD, and_true] <;> (first | (rw [comes_2 hkkind_2]; rfl) | (rw [comes_3 hkkind_3]; rfl) | (rw [comes_6 hkkind_6]; rfl) | (rw [comes_1 hkkind_1]; rfl) | (rw [comes_4 hkkind_4]; rfl) | (rw [comes_5 hkkind_5]; rfl) | (rw [comes_o hnkind_1 hnkind_2 hnkind_3 hnkind_4 hnkind_5 hnkind_6]; rfl)))
end Go.Vm
end
section
namespace Go.Vm
open Go.RowKit Go.Proofs
set_option linter.unusedVariables false
set_option linter.unusedSimpArgs false
set_option maxRecDepth 10000

theorem lensGoes_at (x : LensD) (hx0 : okX x) (hx : rightL x = true) : Contract Tryz.prog 146 [lD x] [.d (.row ((goesL x).map rD))] := by have h := lensGoes_any x hx0; rwa [if_pos hx] at h
theorem lensComes_at (x : LensD) (hx0 : okX x) (hx : rightL x = true) : Contract Tryz.prog 165 [lD x] [.d (.row ((comesL x).map rD))] := by have h := lensComes_any x hx0; rwa [if_pos hx] at h
theorem go9_0 {x : LensD} (h : x.kind = 9) : ((goesL x).map rD)[(0 : Int).toNat]? = some (rD (named x.at_ x.name)) := by rw [goes_9 h]; rfl
theorem go9_1 {x : LensD} (h : x.kind = 9) : ((goesL x).map rD)[(1 : Int).toNat]? = some (rD (named x.at_ x.other)) := by rw [goes_9 h]; rfl
theorem co6_0 {x : LensD} (h : x.kind = 6) : ((comesL x).map rD)[(0 : Int).toNat]? = some (rD (named x.at_ x.name)) := by rw [comes_6 h]; rfl
theorem co6_1 {x : LensD} (h : x.kind = 6) : ((comesL x).map rD)[(1 : Int).toNat]? = some (rD (named x.at_ x.other)) := by rw [comes_6 h]; rfl
theorem co_at {x : LensD} (h : x.kind = 7 ∨ x.kind = 8 ∨ x.kind = 9 ∨ x.kind = 10) : ((comesL x).map rD)[(0 : Int).toNat]? = some (rD x.at_) := by rw [comes_o (by omega) (by omega) (by omega) (by omega) (by omega) (by omega)]; rfl
theorem comes_ne {x : LensD} (h : ¬ x.kind = 3) : comesL x ≠ [] := by
  unfold comesL; simp only [h, if_false]; (repeat' split) <;> simp
theorem co_0 {x : LensD} (h : ¬ x.kind = 3) : ((comesL x).map rD)[(0 : Int).toNat]? = some (rD (comeL x)) := by
  have := comes_ne h
  unfold comeL
  cases hc : comesL x with
  | nil => exact absurd hc this
  | cons c cs => rfl
theorem mul_bound {a b : Int} (h : 0 ≤ a ∧ a ≤ 1048576) (h2 : 0 ≤ b ∧ b ≤ 1000) : -9223372036854775808 ≤ a * b ∧ a * b ≤ 9223372036854775807 := by
  have h3 := Int.mul_nonneg h.1 h2.1
  have h4 : a * b ≤ 1048576 * 1000 := Int.mul_le_mul h.2 h2.2 h2.1 (by omega)
  omega
theorem factor_ok {x : LensD} (hx : rightL x = true) (h : x.kind = 6 ∨ x.kind = 9) : 0 ≤ x.factor ∧ x.factor ≤ 1000 := by
  unfold rightL at hx
  rw [if_neg (by omega), if_neg (show ¬ x.kind = 8 by omega), if_pos h] at hx
  simp only [Bool.and_eq_true, decide_eq_true_eq] at hx
  omega
theorem find_in {l : List FieldD} {r : RefD} (h : (findS l r).2 = 0) : ¬ indexS l r < 0 := by
  intro h'; rw [find_neg h'] at h; simp at h
theorem find_worth {l : List FieldD} {r : RefD} (hl : rightS l = true) (h : (findS l r).2 = 0) : 0 ≤ (findS l r).1.worth ∧ (findS l r).1.worth ≤ 1048576 := by
  have h' := find_in h
  rw [find_pos h']
  exact rightF_worth (rightS_mem hl (fieldAt_spec h').1)
theorem find_ok {l : List FieldD} {r : RefD} (ho : okL l) : (findS l r).1.cases.length ≤ 1000000 := by
  by_cases h : indexS l r < 0
  · rw [find_neg h]; simp [noField]
  · rw [find_pos h]; exact ho.2 _ (fieldAt_spec h).1
theorem arr_2 {l : List FieldD} {x : LensD} (h : x.kind = 2) : arrS l x = ([x.field], true) := by unfold arrS; rw [if_pos h]
theorem arr_3 {l : List FieldD} {x : LensD} (h : x.kind = 3) : arrS l x = ([], decide ((findS l x.field.at_).2 = 0) && decide ((findS l x.field.at_).1 = x.field)) := by unfold arrS; rw [if_neg (by omega), if_pos h]
theorem arr_9 {l : List FieldD} {x : LensD} (h : x.kind = 9) : arrS l x = mergedS l x := by unfold arrS; rw [if_neg (by omega), if_neg (by omega), if_pos h]
theorem arr_no {l : List FieldD} {x : LensD} (h2 : ¬ x.kind = 2) (h3 : ¬ x.kind = 3) (h9 : ¬ x.kind = 9) (hf : ¬ (findS l x.at_).2 = 0) : arrS l x = ([], false) := by unfold arrS; rw [if_neg h2, if_neg h3, if_neg h9, if_pos hf]
theorem arr_6 {l : List FieldD} {x : LensD} (h : x.kind = 6) (hf : (findS l x.at_).2 = 0) : arrS l x = ([⟨named x.at_ x.name, 1, noB, [], (findS l x.at_).1.worth⟩, ⟨named x.at_ x.other, 1, noB, [], (findS l x.at_).1.worth * x.factor⟩], decide ((findS l x.at_).1.kind = 1)) := by
  unfold arrS; rw [if_neg (by omega), if_neg (by omega), if_neg (by omega), if_neg (by omega), if_pos h]
theorem arr_7 {l : List FieldD} {x : LensD} (h : x.kind = 7) (hf : (findS l x.at_).2 = 0) : arrS l x = ([⟨x.at_, 4, noB, [], 0⟩], decide ((findS l x.at_).1.kind = 2) && decide ((findS l x.at_).1.deft = x.other)) := by
  unfold arrS; rw [if_neg (by omega), if_neg (by omega), if_neg (by omega), if_neg (by omega), if_neg (by omega), if_pos h]
theorem arr_10 {l : List FieldD} {x : LensD} (h : x.kind = 10) (hf : (findS l x.at_).2 = 0) : arrS l x = ([⟨x.at_, 2, x.other, [], 0⟩], decide ((findS l x.at_).1.kind = 4)) := by
  unfold arrS; rw [if_neg (by omega), if_neg (by omega), if_neg (by omega), if_neg (by omega), if_neg (by omega), if_neg (by omega), if_pos h]
theorem arr_8 {l : List FieldD} {x : LensD} (h : x.kind = 8) (hf : (findS l x.at_).2 = 0) : arrS l x = ([⟨x.at_, 3, x.other, froms x.back, 0⟩], decide ((findS l x.at_).1 = ⟨x.at_, 3, x.name, froms x.forth, 0⟩)) := by
  unfold arrS; rw [if_neg (by omega), if_neg (by omega), if_neg (by omega), if_neg (by omega), if_neg (by omega), if_neg (by omega), if_neg (by omega), if_pos h]
theorem arr_o {l : List FieldD} {x : LensD} (h : ¬ x.kind = 2 ∧ ¬ x.kind = 3 ∧ ¬ x.kind = 9 ∧ ¬ x.kind = 6 ∧ ¬ x.kind = 7 ∧ ¬ x.kind = 10 ∧ ¬ x.kind = 8) (hf : (findS l x.at_).2 = 0) : arrS l x = ([⟨comeL x, (findS l x.at_).1.kind, (findS l x.at_).1.deft, (findS l x.at_).1.cases, (findS l x.at_).1.worth⟩], true) := by
  unfold arrS; rw [if_neg (by omega), if_neg (by omega), if_neg (by omega), if_neg (by omega), if_neg (by omega), if_neg (by omega), if_neg (by omega), if_neg (by omega)]
theorem pair_and {A : Prop} {a b : Bool} (h1 : A) (h : a = b) : A ∧ D.sc (.bool a) = D.sc (.bool b) := ⟨h1, scb h⟩

set_option maxHeartbeats 1000000 in
theorem merged_any (l : List FieldD) (x : LensD) (ho : okL l) (hx0 : okX x) (hl : rightS l = true) (hx : rightL x = true) (hk : x.kind = 9) : Contract Tryz.prog 164 [.row (l.map fD), lD x] [.d (.row ((mergedS l x).1.map fD)), .d (.sc (.bool ((mergedS l x).2)))] := by
 refine T.fn [] Tryz.func164 ?_
 refine x_call T.en_146 (lensGoes_at _ hx0 hx) ?_
 first | refine x_ix (by first | exact go9_0 (by omega) | exact go9_1 (by omega) | exact co6_0 (by omega) | exact co6_1 (by omega) | exact co_0 (by omega)) ?_ | refine x_ixI (by first | exact go9_0 (by omega) | exact go9_1 (by omega) | exact co6_0 (by omega) | exact co6_1 (by omega) | exact co_0 (by omega)) ?_
 refine x_call T.en_163 (schemaFind_any _ _ ho) ?_
 refine br (fun hg1 => ?y1) (fun hg1 => ?n1)
 case' y1 =>
  refine brT ?_
 case' n1 =>
  have hu0 : (findS l (named x.at_ x.name)).2 = 0 := by simpa using hg1
  refine br (fun hc3 => ?y3) (fun hc3 => ?n3)
  case' n3 =>
   first | refine x_ix (by first | exact go9_0 (by omega) | exact go9_1 (by omega) | exact co6_0 (by omega) | exact co6_1 (by omega) | exact co_0 (by omega)) ?_ | refine x_ixI (by first | exact go9_0 (by omega) | exact go9_1 (by omega) | exact co6_0 (by omega) | exact co6_1 (by omega) | exact co_0 (by omega)) ?_
   refine x_call T.en_163 (schemaFind_any _ _ ho) ?_
   refine br (fun hg4 => ?y4) (fun hg4 => ?n4)
   case' y4 =>
    refine brT ?_
    refine brT ?_
   case' n4 =>
    refine br (fun hg7 => ?y7) (fun hg7 => ?n7)
    case' y7 =>
     refine brT ?_
    case' n7 =>
     first | refine x_bin (pr_mul (wrap64 _ (mul_bound (find_worth hl hu0) (factor_ok hx (.inr hk))))) rfl ?_ | refine x_mul ?_ | refine x_bin rfl rfl ?_
     refine br (fun hc9 => ?y9) (fun hc9 => ?n9)
 all_goals (refine x_ret ?_; simp only [fitsL, fits, C.asD, and_true] <;> (first | (unfold mergedS; simp_all; done) | (have hm : mergedS l x = ([⟨x.at_, 1, noB, [], (findS l (named x.at_ x.name)).1.worth⟩], true) := (by unfold mergedS; simp_all; done); rw [hm]; exact ⟨rfl, rfl⟩)))
end Go.Vm
end
section
namespace Go.Vm
open Go.RowKit Go.Proofs
set_option linter.unusedVariables false
set_option linter.unusedSimpArgs false
set_option maxRecDepth 10000

set_option maxHeartbeats 1000000 in
theorem arrivals_any (l : List FieldD) (x : LensD) (ho : okL l) (hx0 : okX x) (hl : rightS l = true) (hx : rightL x = true) : Contract Tryz.prog 145 [.row (l.map fD), lD x] [.d (.row ((arrS l x).1.map fD)), .d (.sc (.bool ((arrS l x).2)))] := by
 refine T.fn [] Tryz.func145 ?_
 refine br (fun hc1 => ?y1) (fun hc1 => ?n1)
 case' y1 =>
  have hkkind_2 := hc1
  refine x_call T.en_119 (fieldOwn_any _ hx0.1) ?_
 case' n1 =>
  have hnkind_2 := hc1
  refine br (fun hc2 => ?y2) (fun hc2 => ?n2)
  case' y2 =>
   have hkkind_3 := hc2
   refine x_call T.en_163 (schemaFind_any _ _ ho) ?_
   refine br (fun hg3 => ?y3) (fun hg3 => ?n3)
   case' y3 =>
    refine x_call T.en_92 (by first | exact fieldSame_any _ x.field (find_ok ho) | exact fieldSame_any _ ⟨x.at_, 3, x.name, froms x.forth, 0⟩ (find_ok ho)) ?_
  case' n2 =>
   have hnkind_3 := hc2
   refine br (fun hc4 => ?y4) (fun hc4 => ?n4)
   case' y4 =>
    have hkkind_9 := hc4
    refine x_call T.en_164 (merged_any _ _ ho hx0 hl hx (by omega)) ?_
   case' n4 =>
    have hnkind_9 := hc4
    refine x_call T.en_163 (schemaFind_any _ _ ho) ?_
    refine br (fun hc5 => ?y5) (fun hc5 => ?n5)
    case' y5 =>
     have hf1 : ¬ (findS l x.at_).2 = 0 := by simpa using hc5
    case' n5 =>
     have hf0 : (findS l x.at_).2 = 0 := by simpa using hc5
     refine x_call T.en_165 (lensComes_at _ hx0 hx) ?_
     refine br (fun hc6 => ?y6) (fun hc6 => ?n6)
     case' y6 =>
      have hkkind_6 := hc6
      refine And.intro ⟨T.mixed, by decide +kernel⟩ ?_
      first | refine x_ix (by first | exact go9_0 (by omega) | exact go9_1 (by omega) | exact co6_0 (by omega) | exact co6_1 (by omega) | exact co_0 (by omega)) ?_ | refine x_ixI (by first | exact go9_0 (by omega) | exact go9_1 (by omega) | exact co6_0 (by omega) | exact co6_1 (by omega) | exact co_0 (by omega)) ?_
      refine And.intro ⟨T.mixed, by decide +kernel⟩ ?_
      first | refine x_ix (by first | exact go9_0 (by omega) | exact go9_1 (by omega) | exact co6_0 (by omega) | exact co6_1 (by omega) | exact co_0 (by omega)) ?_ | refine x_ixI (by first | exact go9_0 (by omega) | exact go9_1 (by omega) | exact co6_0 (by omega) | exact co6_1 (by omega) | exact co_0 (by omega)) ?_
      first | refine x_bin (pr_mul (wrap64 _ (mul_bound (find_worth hl hf0) (factor_ok hx (by omega))))) rfl ?_ | refine x_mul ?_ | refine x_bin rfl rfl ?_
      refine And.intro ⟨T.mixed, by decide +kernel⟩ ?_
     case' n6 =>
      have hnkind_6 := hc6
      refine br (fun hc7 => ?y7) (fun hc7 => ?n7)
      case' y7 =>
       have hkkind_7 := hc7
       refine And.intro ⟨T.mixed, by decide +kernel⟩ ?_
       refine br (fun hg8 => ?y8) (fun hg8 => ?n8)
      case' n7 =>
       have hnkind_7 := hc7
       refine br (fun hc9 => ?y9) (fun hc9 => ?n9)
       case' y9 =>
        have hkkind_10 := hc9
        refine And.intro ⟨T.mixed, by decide +kernel⟩ ?_
       case' n9 =>
        have hnkind_10 := hc9
        refine br (fun hc10 => ?y10) (fun hc10 => ?n10)
        case' y10 =>
         have hkkind_8 := hc10
         refine And.intro ⟨T.mixed, by decide +kernel⟩ ?_
         refine x_call T.en_166 (froms_any _ (by first | exact hx0.2.1 | exact hx0.2.2)) ?_
         refine And.intro ⟨T.mixed, by decide +kernel⟩ ?_
         refine x_call T.en_166 (froms_any _ (by first | exact hx0.2.1 | exact hx0.2.2)) ?_
         refine And.intro ⟨T.mixed, by decide +kernel⟩ ?_
         refine x_call T.en_92 (by first | exact fieldSame_any _ x.field (find_ok ho) | exact fieldSame_any _ ⟨x.at_, 3, x.name, froms x.forth, 0⟩ (find_ok ho)) ?_
        case' n10 =>
         have hnkind_8 := hc10
         first | refine x_ix (by first | exact go9_0 (by omega) | exact go9_1 (by omega) | exact co6_0 (by omega) | exact co6_1 (by omega) | exact co_0 (by omega)) ?_ | refine x_ixI (by first | exact go9_0 (by omega) | exact go9_1 (by omega) | exact co6_0 (by omega) | exact co6_1 (by omega) | exact co_0 (by omega)) ?_
 all_goals (refine x_ret ?_; simp only [fitsL, fits, C.asD, and_true] <;> (first | (rw [arr_2 hkkind_2]; exact ⟨rfl, rfl⟩) | (rw [arr_3 hkkind_3]; refine pair_and rfl ?_; simp_all; done) | (rw [arr_9 hkkind_9]; exact ⟨rfl, rfl⟩) | (rw [arr_no hnkind_2 hnkind_3 hnkind_9 hf1]; exact ⟨rfl, rfl⟩) | (rw [arr_6 hkkind_6 hf0]; exact ⟨rfl, rfl⟩) | (rw [arr_7 hkkind_7 hf0]; refine pair_and rfl ?_; simp_all; done) | (rw [arr_10 hkkind_10 hf0]; exact ⟨rfl, rfl⟩) | (rw [arr_8 hkkind_8 hf0]; exact ⟨rfl, rfl⟩) | (rw [arr_o (by omega) hf0]; exact ⟨rfl, rfl⟩)))
end Go.Vm
end
section
namespace Go.Vm
open Go.RowKit Go.Proofs
set_option linter.unusedVariables false
set_option linter.unusedSimpArgs false
set_option maxRecDepth 10000

theorem okL_sub {l m : List FieldD} (ho : okL l) (h : m.length ≤ 1000) (hs : ∀ f ∈ m, f ∈ l) : okL m := ⟨h, fun f hf => ho.2 f (hs f hf)⟩
theorem okL_del {l : List FieldD} {r : RefD} (ho : okL l) : okL (delF l r) := okL_sub ho (by have := ho.1; have h := List.length_filter_le (fun f => !decide (f.at_ = r)) l; unfold delF; omega) (fun f hf => (mem_delF.1 hf).1)
theorem okL_nil : okL [] := ⟨by simp, by simp⟩
theorem okL_without {l : List FieldD} {r : RefD} (ho : okL l) : okL (withoutS l r).1 := by
  unfold withoutS
  split
  · exact okL_nil
  split
  · exact okL_nil
  · exact okL_del ho
theorem okL_with {l : List FieldD} {f : FieldD} (ho : okL l) (hf : f.cases.length ≤ 1000000) : okL (withS l f).1 := by
  unfold withS
  split
  · exact okL_nil
  split
  · exact okL_nil
  split
  · exact okL_nil
  · refine ⟨by show (insF l f).length ≤ 1000; rw [length_insF]; omega, fun g hg => ?_⟩
    rcases mem_insF.1 hg with rfl | hg
    · exact hf
    · exact ho.2 g hg
theorem okL_withAll : ∀ {fs l : List FieldD}, okL l → (∀ f ∈ fs, f.cases.length ≤ 1000000) → okL (withAll l fs).1
  | [], l, h, _ => h
  | f :: fs, l, h, hf => by
    unfold withAll
    split
    · exact okL_withAll (okL_with h (hf f (List.mem_cons_self ..))) (fun g hg => hf g (List.mem_cons_of_mem _ hg))
    · exact okL_nil
theorem okL_delAll {rs : List RefD} : ∀ {l : List FieldD}, okL l → okL (delAll l rs) := by
  induction rs with
  | nil => intro l h; exact h
  | cons r rs ih => intro l h; exact ih (okL_del h)
theorem froms_ok {t : List (ByteArray × ByteArray)} (h : t.length ≤ 1000) : (froms t).length ≤ 1000000 := by unfold froms; rw [List.length_map]; omega
theorem news_ok {l : List FieldD} {x : LensD} {fs : List FieldD} (ho : okL l) (hx0 : okX x) (hat : ∀ g ∈ goesL x, ¬ indexS l g < 0) (h : newsL l x = some fs) : ∀ f ∈ fs, f.cases.length ≤ 1000000 := by
  have h1 := hx0.1
  have h2 := froms_ok hx0.2.2
  unfold newsL at h
  split at h
  · injection h with h; subst h; simpa using h1
  split at h
  · split at h
    · injection h with h; subst h; simp
    · cases h
  split at h
  · split at h
    · injection h with h; subst h; simp
    · cases h
  split at h
  · split at h
    · injection h with h; subst h; simp
    · cases h
  split at h
  · split at h
    · injection h with h; subst h; simp
    · cases h
  split at h
  · split at h
    · injection h with h; subst h; simp
    · cases h
  split at h
  · split at h
    · injection h with h; subst h; simpa using h2
    · cases h
  · rename_i q2 q3 q9 q6 q7 q10 q8
    injection h with h; subst h
    have hfa : (fieldAt l x.at_).cases.length ≤ 1000000 := ho.2 _ (fieldAt_spec (hat x.at_ (by rw [goes_o q2 q3 q9]; exact List.mem_singleton.2 rfl))).1
    cases comesL x with
    | nil => simp
    | cons c cs => simpa using hfa
theorem arr_ok {l : List FieldD} {x : LensD} (ho : okL l) (hx0 : okX x) (h : (arrS l x).2 = true) : ∀ f ∈ (arrS l x).1, f.cases.length ≤ 1000000 := by
  have hat : ∀ g ∈ goesL x, ¬ indexS l g < 0 := by
    intro g hg hn
    have := arr_missing (l := l) (x := x) (List.any_eq_true.2 ⟨g, hg, by simpa using hn⟩)
    rw [h] at this; cases this
  have h4 := arr_news hat
  cases hn : newsL l x with
  | none => rw [hn] at h4; simp only at h4; rw [h] at h4; cases h4
  | some fs => rw [hn] at h4; simp only at h4; rw [h4]; exact news_ok ho hx0 hat hn
theorem okL_apply {l : List FieldD} {x : LensD} (ho : okL l) (hx0 : okX x) : okL (applyS l x).1 := by
  unfold applyS
  split
  · exact okL_nil
  split
  · exact okL_nil
  rename_i hg
  have hat : ∀ g ∈ goesL x, ¬ indexS l g < 0 := by simpa using hg
  split
  · exact okL_nil
  · rename_i fs hfs
    exact okL_withAll (okL_delAll ho) (news_ok ho hx0 hat hfs)
theorem drop_at {α : Type} {l : List α} {k : Nat} {p : α} (hp : l[k]? = some p) : l.drop k = p :: l.drop (k + 1) := by
  obtain ⟨hlt, rfl⟩ := List.getElem?_eq_some_iff.1 hp
  exact List.drop_eq_getElem_cons hlt
theorem goes_len (x : LensD) : (goesL x).length ≤ 2 := by unfold goesL; (repeat' split) <;> simp
theorem app_5 {l : List FieldD} {x : LensD} (h : (rightS l && rightL x) = false) : applyS l x = ([], 5) := by unfold applyS; rw [if_pos h]
theorem app_arr {l : List FieldD} {x : LensD} (hl : rightS l = true) (hx : rightL x = true) (h : (arrS l x).2 = false) : applyS l x = ([], 16) := by rw [← applyP_eq]; unfold applyP; rw [hl, hx, if_neg (by simp), if_pos h]
theorem app_del {l : List FieldD} {x : LensD} (hl : rightS l = true) (hx : rightL x = true) (h : (arrS l x).2 = true) (hd : delLoop l (goesL x) = ([], 16)) : applyS l x = ([], 16) := by rw [← applyP_eq]; unfold applyP; rw [hl, hx, if_neg (by simp), h, if_neg (by simp), hd, if_pos (by simp)]
theorem app_with {l m : List FieldD} {x : LensD} (hl : rightS l = true) (hx : rightL x = true) (h : (arrS l x).2 = true) (hd : delLoop l (goesL x) = (m, 0)) : applyS l x = withAll m (arrS l x).1 := by rw [← applyP_eq]; unfold applyP; rw [hl, hx, if_neg (by simp), h, if_neg (by simp), hd, if_neg (by simp)]
theorem delLoop_hit {l : List FieldD} {r : RefD} {rs : List RefD} (h : ¬ (withoutS l r).2 = 0) : delLoop l (r :: rs) = ([], 16) := by unfold delLoop; rw [if_neg h]
theorem delLoop_next {l : List FieldD} {r : RefD} {rs : List RefD} (h : (withoutS l r).2 = 0) : delLoop l (r :: rs) = delLoop (withoutS l r).1 rs := by rw [delLoop, if_pos h]
theorem withAll_hit {l : List FieldD} {f : FieldD} {fs : List FieldD} (h : ¬ (withS l f).2 = 0) : withAll l (f :: fs) = ([], 16) := by rw [withAll, if_neg h]
theorem withAll_next {l : List FieldD} {f : FieldD} {fs : List FieldD} (h : (withS l f).2 = 0) : withAll l (f :: fs) = withAll (withS l f).1 fs := by rw [withAll, if_pos h]
theorem del_end {l m : List FieldD} {rs : List RefD} {k : Nat} (hk : rs.length ≤ k) (h : delLoop l rs = delLoop m (rs.drop k)) : delLoop l rs = (m, 0) := by rw [h, List.drop_eq_nil_of_le hk]; rfl
theorem with_end {l m fs : List FieldD} {k : Nat} (hk : fs.length ≤ k) (h : withAll l fs = withAll m (fs.drop k)) : withAll l fs = (m, 0) := by rw [h, List.drop_eq_nil_of_le hk]; rfl
theorem arr_len (l : List FieldD) (x : LensD) : (arrS l x).1.length ≤ 2 := by unfold arrS mergedS; (repeat' split) <;> simp

set_option maxHeartbeats 1000000 in
theorem apply_any (l : List FieldD) (x : LensD) (ho : okL l) (hx0 : okX x) : Contract Tryz.prog 125 [.row (l.map fD), lD x] [.d (.row ((applyS l x).1.map fD)), .d (.sc (.int .i64 (applyS l x).2))] := by
 refine T.fn [] Tryz.func125 ?_
 have hl0 := ho.1
 refine x_call T.en_144 (schemaRight_any _ ho) ?_
 refine br (fun hg1 => ?y1) (fun hg1 => ?n1)
 case' y1 =>
  refine brT ?_
  have h5 : (rightS l && rightL x) = false := by simp_all
 case' n1 =>
  refine x_call T.en_46 (lensRight_any _ hx0) ?_
  refine br (fun hc3 => ?y3) (fun hc3 => ?n3)
  case' y3 =>
   have h5 : (rightS l && rightL x) = false := by simp_all
  case' n3 =>
   have hg1 : rightS l = true ∧ rightL x = true := by simp_all
   have hl := hg1.1
   have hx := hg1.2
   refine x_call T.en_145 (arrivals_any _ _ ho hx0 hl hx) ?_
   refine br (fun hc4 => ?y4) (fun hc4 => ?n4)
   case' y4 =>
    have har : (arrS l x).2 = false := by simpa using hc4
   case' n4 =>
    have har : (arrS l x).2 = true := by simpa using hc4
    have haok := arr_ok ho hx0 har
    have hgl := goes_len x
    have hal := arr_len l x
    refine x_call T.en_64 (schemaOwn_any _ ho) ?_
    refine x_call T.en_146 (lensGoes_at _ hx0 hx) ?_
    refine x_len ?_
    refine xloopR (fb := []) T.ok (Nat.le_of_ble_eq_true rfl) [6, 33, 34] (fun (s : Nat × List FieldD) => [(35, .c (.d (.sc (.int .i64 ((s.1 : Nat) : Int))))), (8, .c (.d (.row (s.2.map fD))))]) (fun s => s.1 ≤ (goesL x).length ∧ okL s.2 ∧ delLoop l (goesL x) = delLoop s.2 ((goesL x).drop s.1)) (fun s => (goesL x).length - s.1) (0, l) ⟨Nat.zero_le _, ho, rfl⟩ (x_ent (by first | rfl | (simp only [Tr.get]; simp; done)) (x_ent (by first | rfl | (simp only [Tr.get]; simp; done)) trivial)) ?_
    rintro s ⟨hk, hok, hi⟩
    refine br (fun hc5 => ?y5) (fun hc5 => ?n5)
    case' y5 =>
     obtain ⟨p, hp⟩ := elem_at hc5
     have hkl := lt_len hp
     first | refine x_ix (by first | exact mapAt hp | exact mapAt hq) ?_ | refine x_ixI (by first | exact mapAt hp | exact mapAt hq) ?_
     refine x_call T.en_147 (schemaWithout_any _ _ hok) ?_
     refine br (fun hc6 => ?y6) (fun hc6 => ?n6)
     case' y6 =>
      have hc0 : ¬ (withoutS s.2 p).2 = 0 := by simpa using hc6
      have hD : delLoop l (goesL x) = ([], 16) := by rw [hi, drop_at hp]; exact delLoop_hit hc0
     case' n6 =>
      have hc0 : (withoutS s.2 p).2 = 0 := by simpa using hc6
      first | refine x_bin (pr_add1 (by omega)) rfl ?_ | refine x_inc ?_ | refine x_add ?_ | refine x_bin rfl rfl ?_
      refine x_rnd (s.1 + 1, (withoutS s.2 p).1) ⟨lt_len hp, okL_without hok, by rw [hi, drop_at hp]; exact delLoop_next hc0⟩ (by (try dsimp only); have := lt_len hp; (try dsimp only); omega) rfl (x_ent (by first | rfl | (simp only [Tr.get]; simp; done)) (x_ent (by first | rfl | (simp only [Tr.get]; simp; done)) trivial)) rfl
    case' n5 =>
     have hD : delLoop l (goesL x) = (s.2, 0) := del_end (past_end hc5) hi
     refine x_len ?_
     refine xloopR (fb := []) T.ok (Nat.le_of_ble_eq_true rfl) [48, 49] (fun (u : Nat × List FieldD) => [(50, .c (.d (.sc (.int .i64 ((u.1 : Nat) : Int))))), (8, .c (.d (.row (u.2.map fD))))]) (fun u => u.1 ≤ (arrS l x).1.length ∧ okL u.2 ∧ withAll s.2 (arrS l x).1 = withAll u.2 ((arrS l x).1.drop u.1)) (fun u => (arrS l x).1.length - u.1) (0, s.2) ⟨Nat.zero_le _, hok, rfl⟩ (x_ent (by first | rfl | (simp only [Tr.get]; simp; done)) (x_ent (by first | rfl | (simp only [Tr.get]; simp; done)) trivial)) ?_
     rintro u ⟨hk2, hok, hv⟩
     refine br (fun hc7 => ?y7) (fun hc7 => ?n7)
     case' y7 =>
      obtain ⟨q, hq⟩ := elem_at hc7
      have hkl2 := lt_len hq
      first | refine x_ix (by first | exact mapAt hp | exact mapAt hq) ?_ | refine x_ixI (by first | exact mapAt hp | exact mapAt hq) ?_
      refine x_call T.en_148 (schemaWith_any _ _ hok (haok _ (List.mem_of_getElem? hq))) ?_
      refine br (fun hc8 => ?y8) (fun hc8 => ?n8)
      case' y8 =>
       have hw0 : ¬ (withS u.2 q).2 = 0 := by simpa using hc8
       have hW : withAll s.2 (arrS l x).1 = ([], 16) := by rw [hv, drop_at hq]; exact withAll_hit hw0
      case' n8 =>
       have hw0 : (withS u.2 q).2 = 0 := by simpa using hc8
       first | refine x_bin (pr_add1 (by omega)) rfl ?_ | refine x_inc ?_ | refine x_add ?_ | refine x_bin rfl rfl ?_
       refine x_rnd (u.1 + 1, (withS u.2 q).1) ⟨lt_len hq, okL_with hok (haok _ (List.mem_of_getElem? hq)), by rw [hv, drop_at hq]; exact withAll_next hw0⟩ (by (try dsimp only); have := lt_len hq; (try dsimp only); omega) rfl (x_ent (by first | rfl | (simp only [Tr.get]; simp; done)) (x_ent (by first | rfl | (simp only [Tr.get]; simp; done)) trivial)) rfl
     case' n7 =>
      have hW : withAll s.2 (arrS l x).1 = (u.2, 0) := with_end (past_end hc7) hv
 all_goals (refine x_ret ?_; simp only [fitsL, fits, C.asD, and_true] <;> (first | (rw [app_5 h5]; exact ⟨rfl, rfl⟩) | (rw [app_arr hl hx har]; exact ⟨rfl, rfl⟩) | (rw [app_with hl hx har hD, hW]; exact ⟨rfl, rfl⟩) | (rw [app_del hl hx har hD]; exact ⟨rfl, rfl⟩)))
end Go.Vm
end
section
namespace Go.Vm
open Go.RowKit Go.Proofs
set_option linter.unusedVariables false
set_option linter.unusedSimpArgs false
set_option maxRecDepth 10000

theorem right_kind {x : LensD} (h : rightL x = true) : 1 ≤ x.kind ∧ x.kind ≤ 10 := by
  by_cases h1 : x.kind = 2 ∨ x.kind = 3
  · omega
  by_cases h2 : x.kind = 8
  · omega
  by_cases h3 : x.kind = 6 ∨ x.kind = 9
  · omega
  by_cases h4 : x.kind = 7 ∨ x.kind = 10
  · omega
  by_cases h5 : x.kind = 1
  · omega
  by_cases h6 : x.kind = 4
  · omega
  by_cases h7 : x.kind = 5
  · omega
  unfold rightL at h
  rw [if_neg h1, if_neg h2, if_neg h3, if_neg h4, if_neg h5, if_neg h6, if_neg h7] at h
  simp at h
theorem refApp_5 {l : List FieldD} {x : LensD} (h : (rightS l && rightL x) = false) : applyS l x = ([], 5) := app_5 h
theorem refApp_gone {l : List FieldD} {x : LensD} {p : RefD} {k : Nat} (hl : rightS l = true) (hx : rightL x = true) (hp : (goesL x)[k]? = some p) (h : indexS l p < 0) : applyS l x = ([], 16) := by
  unfold applyS; rw [hl, hx, if_neg (by simp), if_pos (List.any_eq_true.2 ⟨p, List.mem_of_getElem? hp, by simpa using h⟩)]
theorem refApp_go {l : List FieldD} {x : LensD} (hl : rightS l = true) (hx : rightL x = true) (hall : ∀ g ∈ goesL x, ¬ indexS l g < 0) : applyS l x = if (refA (delAll l (goesL x)) (at0 (wasL l x)) (at1 (wasL l x)) x).2 = false then ([], 16) else ((refA (delAll l (goesL x)) (at0 (wasL l x)) (at1 (wasL l x)) x).1, 0) := by
  rw [← applyR_eq]; unfold applyR
  rw [hl, hx, if_neg (by simp), if_neg]
  intro h
  obtain ⟨g, hg, h⟩ := List.any_eq_true.1 h
  exact hall g hg (by simpa using h)
theorem app_16 {l m : List FieldD} {x : LensD} {R : List FieldD × Bool} (h : applyS l x = if R.2 = false then ([], 16) else (R.1, 0)) (h2 : R.2 = false) : D.row [] = D.row ((applyS l x).1.map fD) ∧ D.sc (.int .i64 16) = D.sc (.int .i64 (applyS l x).2) := by rw [h, if_pos h2]; exact ⟨rfl, rfl⟩
theorem app_0 {l m : List FieldD} {x : LensD} {R : List FieldD × Bool} (h : applyS l x = if R.2 = false then ([], 16) else (R.1, 0)) (h2 : R.2 = true) (h3 : R.1 = m) : D.row (m.map fD) = D.row ((applyS l x).1.map fD) ∧ D.sc (.int .i64 0) = D.sc (.int .i64 (applyS l x).2) := by rw [h, if_neg (by rw [h2]; simp), ← h3]; exact ⟨rfl, rfl⟩
theorem delAll_next {l : List FieldD} {rs : List RefD} {k : Nat} {p : RefD} (hp : rs[k]? = some p) : delAll l (rs.take (k + 1)) = delF (delAll l (rs.take k)) p := by
  unfold delAll; rw [take_next hp, List.foldl_append]; rfl
theorem without_step {l : List FieldD} {rs : List RefD} {k : Nat} {p : RefD} (hl : rightS l = true) (hnd : rs.Nodup) (hp : rs[k]? = some p) (h : ¬ indexS l p < 0) : (withoutS (delAll l (rs.take k)) p).1 = delAll l (rs.take (k + 1)) := by
  have hr := rightS_delAll (rs := rs.take k) hl
  have h2 : 0 ≤ indexS l p := by omega
  obtain ⟨f, hf, e⟩ := index_pos.1 h2
  have hnot : p ∉ rs.take k := by
    intro hm
    obtain ⟨j, hj, e2⟩ := List.getElem_of_mem hm
    have hjk : j < k := by rw [List.length_take] at hj; omega
    obtain ⟨hlt, e3⟩ := List.getElem?_eq_some_iff.1 hp
    rw [List.getElem_take] at e2
    have := (List.nodup_iff_pairwise_ne.1 hnd)
    rw [List.pairwise_iff_getElem] at this
    exact this j k (by omega) hlt hjk (by rw [e2, e3])
  have h3 : 0 ≤ indexS (delAll l (rs.take k)) p := index_pos.2 ⟨f, mem_delAll.2 ⟨hf, by rw [e]; exact hnot⟩, e⟩
  rw [without_ok hr (by omega), delAll_next hp]
theorem was_next {l : List FieldD} {rs : List RefD} {k : Nat} {p : RefD} (hp : rs[k]? = some p) : (rs.take (k + 1)).map (fieldAt l) = (rs.take k).map (fieldAt l) ++ [fieldAt l p] := by rw [take_next hp]; simp
theorem was_0 {l A : List FieldD} {x : LensD} (hA : A = wasL l x) (h2 : ¬ x.kind = 2) : (A.map fD)[(0 : Int).toNat]? = some (fD (at0 (wasL l x))) := by
  subst hA
  unfold wasL at0
  have : goesL x ≠ [] := by unfold goesL; simp only [h2, if_false]; (repeat' split) <;> simp
  cases h : goesL x with
  | nil => exact absurd h this
  | cons c cs => rfl
theorem was_1 {l A : List FieldD} {x : LensD} (hA : A = wasL l x) (h9 : x.kind = 9) : (A.map fD)[(1 : Int).toNat]? = some (fD (at1 (wasL l x))) := by subst hA; unfold wasL at1; rw [goes_9 h9]; rfl
theorem was_in {l : List FieldD} {x : LensD} (hall : ∀ g ∈ goesL x, ¬ indexS l g < 0) (h2 : ¬ x.kind = 2) : at0 (wasL l x) ∈ l := by
  unfold wasL at0
  have : goesL x ≠ [] := by unfold goesL; simp only [h2, if_false]; (repeat' split) <;> simp
  cases h : goesL x with
  | nil => exact absurd h this
  | cons c cs => exact (fieldAt_spec (hall c (by rw [h]; exact List.mem_cons_self ..))).1
theorem was_worth {l : List FieldD} {x : LensD} (hl : rightS l = true) (hall : ∀ g ∈ goesL x, ¬ indexS l g < 0) (h2 : ¬ x.kind = 2) : 0 ≤ (at0 (wasL l x)).worth ∧ (at0 (wasL l x)).worth ≤ 1048576 := rightF_worth (rightS_mem hl (was_in hall h2))
theorem was_ok {l : List FieldD} {x : LensD} (ho : okL l) (hall : ∀ g ∈ goesL x, ¬ indexS l g < 0) (h2 : ¬ x.kind = 2) : (at0 (wasL l x)).cases.length ≤ 1000000 := ho.2 _ (was_in hall h2)
theorem okL_put {l : List FieldD} {f : FieldD} {b : Bool} (ho : okL l) (hf : f.cases.length ≤ 1000000) : okL (putS l f b).1 := okL_with ho hf
theorem all_next {l : List FieldD} {rs : List RefD} {k : Nat} {p : RefD} (hp : rs[k]? = some p) (h : ∀ g ∈ rs.take k, ¬ indexS l g < 0) (hn : ¬ indexS l p < 0) : ∀ g ∈ rs.take (k + 1), ¬ indexS l g < 0 := by
  intro g hg
  rw [take_next hp, List.mem_append, List.mem_singleton] at hg
  rcases hg with hg | rfl
  · exact h g hg
  · exact hn

set_option maxHeartbeats 1000000 in
theorem moved_any (f : FieldD) (r : RefD) : Contract Tryz.prog 115 [fD f, rD r] [.d (fD ⟨r, f.kind, f.deft, f.cases, f.worth⟩)] := by
 refine T.fn [] Tryz.func115 ?_
 all_goals (refine x_ret ?_; simp only [fitsL, fits, C.asD, and_true] <;> (rfl))

set_option maxHeartbeats 1000000 in
theorem refPut_any (l : List FieldD) (f : FieldD) (b : Bool) (ho : okL l) (hf : f.cases.length ≤ 1000000) : Contract Tryz.prog 114 [.row (l.map fD), fD f, .sc (.bool b)] [.d (.row ((putS l f b).1.map fD)), .d (.sc (.bool ((putS l f b).2)))] := by
 refine T.fn [] Tryz.func114 ?_
 refine x_call T.en_141 (refSchemaWith_any _ _ ho hf) ?_
 refine br (fun hg1 => ?y1) (fun hg1 => ?n1)
 all_goals (refine x_ret ?_; simp only [fitsL, fits, C.asD, and_true] <;> (unfold putS; refine pair_and rfl ?_; simp_all))

set_option maxHeartbeats 1000000 in
theorem refApply_any (l : List FieldD) (x : LensD) (ho : okL l) (hx0 : okX x) : Contract Tryz.prog 62 [.row (l.map fD), lD x] [.d (.row ((applyS l x).1.map fD)), .d (.sc (.int .i64 (applyS l x).2))] := by
 refine T.fn [] Tryz.func62 ?_
 have hl0 := ho.1
 have hgl := goes_len x
 refine x_call T.en_109 (refSchemaRight_any _ ho) ?_
 refine br (fun hg1 => ?y1) (fun hg1 => ?n1)
 case' y1 =>
  refine brT ?_
  have h5 : (rightS l && rightL x) = false := by simp_all
 case' n1 =>
  refine x_call T.en_48 (refLensRight_any _ hx0) ?_
  refine br (fun hc3 => ?y3) (fun hc3 => ?n3)
  case' y3 =>
   have h5 : (rightS l && rightL x) = false := by simp_all
  case' n3 =>
   have hg1 : rightS l = true ∧ rightL x = true := by simp_all
   have hl := hg1.1
   have hx := hg1.2
   refine x_call T.en_110 (refGoes_any _) ?_
   refine xloopR (fb := []) T.ok (Nat.le_of_ble_eq_true rfl) [0, 3, 8] (fun (s : Nat × Nat × List FieldD × List FieldD) => [(9, .c (.d (.sc (.int .i64 ((s.1 : Nat) : Int))))), (7, .c (.own 23 28 (s.2.2.1.map fD))), (6, .c (.d (.row (s.2.2.2.map fD))))]) (fun s => s.1 ≤ (goesL x).length ∧ okL s.2.2.2 ∧ s.2.2.1 = ((goesL x).take s.1).map (fieldAt l) ∧ s.2.2.2 = delAll l ((goesL x).take s.1) ∧ ∀ g ∈ (goesL x).take s.1, ¬ indexS l g < 0) (fun s => (goesL x).length - s.1) (0, 23, [], l) ⟨Nat.zero_le _, ho, rfl, rfl, fun g hg => by simp at hg⟩ (x_ent (by first | rfl | (simp only [Tr.get]; simp; done)) (x_ent (by first | rfl | (simp only [Tr.get]; simp; done)) (x_ent (by first | rfl | (simp only [Tr.get]; simp; done)) trivial))) ?_
   rintro s ⟨hk, hok, hA, hR, hal⟩
   have hAl : s.2.2.1.length ≤ 2 := by rw [hA, List.length_map, List.length_take]; omega
   refine x_len ?_
   refine br (fun hc4 => ?y4) (fun hc4 => ?n4)
   case' y4 =>
    obtain ⟨p, hp⟩ := elem_at hc4
    have hkl := lt_len hp
    first | refine x_ix (by first | exact mapAt hp | exact fieldAt_ix hn | exact was_0 hW (by omega) | exact was_1 hW (by omega) | exact co6_0 (by omega) | exact co6_1 (by omega) | exact co_at (by omega) | exact co_0 (by omega)) ?_ | refine x_ixI (by first | exact mapAt hp | exact fieldAt_ix hn | exact was_0 hW (by omega) | exact was_1 hW (by omega) | exact co6_0 (by omega) | exact co6_1 (by omega) | exact co_at (by omega) | exact co_0 (by omega)) ?_
    refine x_call T.en_111 (refSchemaAt_any _ _ ho.1) ?_
    refine br (fun hc5 => ?y5) (fun hc5 => ?n5)
    case' y5 =>
     have hgone : indexS l p < 0 := by simpa using hc5
    case' n5 =>
     have hn : ¬ indexS l p < 0 := by simpa using hc5
     have hib := index_bound (l := l) (r := p)
     have hi0 : 0 ≤ indexS l p := by omega
     first | refine x_ix (by first | exact mapAt hp | exact fieldAt_ix hn | exact was_0 hW (by omega) | exact was_1 hW (by omega) | exact co6_0 (by omega) | exact co6_1 (by omega) | exact co_at (by omega) | exact co_0 (by omega)) ?_ | refine x_ixI (by first | exact mapAt hp | exact fieldAt_ix hn | exact was_0 hW (by omega) | exact was_1 hW (by omega) | exact co6_0 (by omega) | exact co6_1 (by omega) | exact co_at (by omega) | exact co_0 (by omega)) ?_
     first | refine x_app ?_ (by first | exact strs_wide | exact pairs_wide | exact rs_wide | exact fD_wide | (simp [D.cells])) (hz := by first | exact snoc_map (g := fD) | exact one_map (g := fD) | rfl) | refine x_appN ?_ (by first | exact strs_wide | exact pairs_wide | exact rs_wide | exact fD_wide | (simp [D.cells]))
     first | refine x_ix (by first | exact mapAt hp | exact fieldAt_ix hn | exact was_0 hW (by omega) | exact was_1 hW (by omega) | exact co6_0 (by omega) | exact co6_1 (by omega) | exact co_at (by omega) | exact co_0 (by omega)) ?_ | refine x_ixI (by first | exact mapAt hp | exact fieldAt_ix hn | exact was_0 hW (by omega) | exact was_1 hW (by omega) | exact co6_0 (by omega) | exact co6_1 (by omega) | exact co_at (by omega) | exact co_0 (by omega)) ?_
     refine x_call T.en_112 (refSchemaWithout_any _ _ hok) ?_
     first | refine x_bin (pr_add1 (by omega)) rfl ?_ | refine x_bin (pr_mul (wrap64 _ (mul_bound (was_worth hl hall (by omega)) (factor_ok hx (by omega))))) rfl ?_ | refine x_inc ?_ | refine x_add ?_ | refine x_bin rfl rfl ?_
     refine x_rnd (s.1 + 1, 0, s.2.2.1 ++ [fieldAt l p], (withoutS s.2.2.2 p).1) ⟨lt_len hp, okL_without hok, by rw [hA]; exact (was_next hp).symm, by rw [hR]; exact without_step hl (goes_nodup hx) hp hn, all_next hp hal hn⟩ (by (try dsimp only); have := lt_len hp; (try dsimp only); omega) rfl (x_ent (by first | rfl | (simp only [Tr.get]; simp; done)) (x_ent (by first | rfl | (simp only [Tr.get]; simp; done)) (x_ent (by first | rfl | (simp only [Tr.get]; simp; done)) trivial))) rfl
   case' n4 =>
    have hpe := past_end hc4
    have hall : ∀ g ∈ goesL x, ¬ indexS l g < 0 := by rw [List.take_of_length_le hpe] at hal; exact hal
    have hW : s.2.2.1 = wasL l x := by rw [hA, List.take_of_length_le hpe]; rfl
    have hok2 : okL s.2.2.2 := hok
    have hRe : s.2.2.2 = delAll l (goesL x) := by rw [hR, List.take_of_length_le hpe]
    have hgo := refApp_go hl hx hall
    rw [← hRe] at hgo
    refine x_call T.en_113 (refComes_any _) ?_
    refine br (fun hg6 => ?y6) (fun hg6 => ?n6)
    case' y6 =>
     have hkkind_1 := hg6
     refine brT ?_
     refine brT ?_
     refine And.intro ⟨T.mixed, by decide +kernel⟩ ?_
     first | refine x_ix (by first | exact mapAt hp | exact fieldAt_ix hn | exact was_0 hW (by omega) | exact was_1 hW (by omega) | exact co6_0 (by omega) | exact co6_1 (by omega) | exact co_at (by omega) | exact co_0 (by omega)) ?_ | refine x_ixI (by first | exact mapAt hp | exact fieldAt_ix hn | exact was_0 hW (by omega) | exact was_1 hW (by omega) | exact co6_0 (by omega) | exact co6_1 (by omega) | exact co_at (by omega) | exact co_0 (by omega)) ?_
     first | refine x_ix (by first | exact mapAt hp | exact fieldAt_ix hn | exact was_0 hW (by omega) | exact was_1 hW (by omega) | exact co6_0 (by omega) | exact co6_1 (by omega) | exact co_at (by omega) | exact co_0 (by omega)) ?_ | refine x_ixI (by first | exact mapAt hp | exact fieldAt_ix hn | exact was_0 hW (by omega) | exact was_1 hW (by omega) | exact co6_0 (by omega) | exact co6_1 (by omega) | exact co_at (by omega) | exact co_0 (by omega)) ?_
     refine x_call T.en_115 (moved_any _ _) ?_
     refine x_call T.en_114 (by first | exact refPut_any _ _ _ hok2 (was_ok ho hall (by omega)) | exact refPut_any _ x.field _ hok2 hx0.1 | exact refPut_any _ ⟨named x.at_ x.name, 1, noB, [], (at0 (wasL l x)).worth⟩ _ hok2 (Nat.zero_le _) | exact refPut_any _ ⟨named x.at_ x.other, 1, noB, [], (at0 (wasL l x)).worth * x.factor⟩ _ (okL_put hok2 (Nat.zero_le _)) (Nat.zero_le _) | exact refPut_any _ ⟨x.at_, 4, noB, [], 0⟩ _ hok2 (Nat.zero_le _) | exact refPut_any _ ⟨x.at_, 1, noB, [], (at0 (wasL l x)).worth⟩ _ hok2 (Nat.zero_le _) | exact refPut_any _ ⟨x.at_, 2, x.other, [], 0⟩ _ hok2 (Nat.zero_le _) | exact refPut_any _ ⟨x.at_, 3, x.other, froms x.back, 0⟩ _ hok2 (froms_ok hx0.2.2)) ?_
     refine br (fun hc9 => ?y9) (fun hc9 => ?n9)
     case' y9 =>
      exfalso; omega
     case' n9 =>
      have hnkind_2 := hc9
      refine br (fun hc10 => ?y10) (fun hc10 => ?n10)
      case' y10 =>
       exfalso; omega
      case' n10 =>
       have hnkind_3 := hc10
       refine br (fun hc11 => ?y11) (fun hc11 => ?n11)
       case' y11 =>
        exfalso; omega
       case' n11 =>
        have hnkind_6 := hc11
        refine br (fun hc12 => ?y12) (fun hc12 => ?n12)
        case' y12 =>
         exfalso; omega
        case' n12 =>
         have hnkind_7 := hc12
         refine br (fun hc13 => ?y13) (fun hc13 => ?n13)
         case' y13 =>
          exfalso; omega
         case' n13 =>
          have hnkind_8 := hc13
          refine br (fun hc14 => ?y14) (fun hc14 => ?n14)
          case' y14 =>
           exfalso; omega
          case' n14 =>
           have hnkind_9 := hc14
           refine br (fun hc15 => ?y15) (fun hc15 => ?n15)
           case' y15 =>
            exfalso; omega
           case' n15 =>
            have hnkind_10 := hc15
            refine br (fun hc16 => ?y16) (fun hc16 => ?n16)
            case' y16 =>
             have hbad := hc16
            case' n16 =>
             have hgood := hc16
    case' n6 =>
     have hnkind_1 := hg6
     refine br (fun hg17 => ?y17) (fun hg17 => ?n17)
     case' y17 =>
      have hkkind_4 := hg17
      refine brT ?_
      refine And.intro ⟨T.mixed, by decide +kernel⟩ ?_
      first | refine x_ix (by first | exact mapAt hp | exact fieldAt_ix hn | exact was_0 hW (by omega) | exact was_1 hW (by omega) | exact co6_0 (by omega) | exact co6_1 (by omega) | exact co_at (by omega) | exact co_0 (by omega)) ?_ | refine x_ixI (by first | exact mapAt hp | exact fieldAt_ix hn | exact was_0 hW (by omega) | exact was_1 hW (by omega) | exact co6_0 (by omega) | exact co6_1 (by omega) | exact co_at (by omega) | exact co_0 (by omega)) ?_
      first | refine x_ix (by first | exact mapAt hp | exact fieldAt_ix hn | exact was_0 hW (by omega) | exact was_1 hW (by omega) | exact co6_0 (by omega) | exact co6_1 (by omega) | exact co_at (by omega) | exact co_0 (by omega)) ?_ | refine x_ixI (by first | exact mapAt hp | exact fieldAt_ix hn | exact was_0 hW (by omega) | exact was_1 hW (by omega) | exact co6_0 (by omega) | exact co6_1 (by omega) | exact co_at (by omega) | exact co_0 (by omega)) ?_
      refine x_call T.en_115 (moved_any _ _) ?_
      refine x_call T.en_114 (by first | exact refPut_any _ _ _ hok2 (was_ok ho hall (by omega)) | exact refPut_any _ x.field _ hok2 hx0.1 | exact refPut_any _ ⟨named x.at_ x.name, 1, noB, [], (at0 (wasL l x)).worth⟩ _ hok2 (Nat.zero_le _) | exact refPut_any _ ⟨named x.at_ x.other, 1, noB, [], (at0 (wasL l x)).worth * x.factor⟩ _ (okL_put hok2 (Nat.zero_le _)) (Nat.zero_le _) | exact refPut_any _ ⟨x.at_, 4, noB, [], 0⟩ _ hok2 (Nat.zero_le _) | exact refPut_any _ ⟨x.at_, 1, noB, [], (at0 (wasL l x)).worth⟩ _ hok2 (Nat.zero_le _) | exact refPut_any _ ⟨x.at_, 2, x.other, [], 0⟩ _ hok2 (Nat.zero_le _) | exact refPut_any _ ⟨x.at_, 3, x.other, froms x.back, 0⟩ _ hok2 (froms_ok hx0.2.2)) ?_
      refine br (fun hc19 => ?y19) (fun hc19 => ?n19)
      case' y19 =>
       exfalso; omega
      case' n19 =>
       have hnkind_2 := hc19
       refine br (fun hc20 => ?y20) (fun hc20 => ?n20)
       case' y20 =>
        exfalso; omega
       case' n20 =>
        have hnkind_3 := hc20
        refine br (fun hc21 => ?y21) (fun hc21 => ?n21)
        case' y21 =>
         exfalso; omega
        case' n21 =>
         have hnkind_6 := hc21
         refine br (fun hc22 => ?y22) (fun hc22 => ?n22)
         case' y22 =>
          exfalso; omega
         case' n22 =>
          have hnkind_7 := hc22
          refine br (fun hc23 => ?y23) (fun hc23 => ?n23)
          case' y23 =>
           exfalso; omega
          case' n23 =>
           have hnkind_8 := hc23
           refine br (fun hc24 => ?y24) (fun hc24 => ?n24)
           case' y24 =>
            exfalso; omega
           case' n24 =>
            have hnkind_9 := hc24
            refine br (fun hc25 => ?y25) (fun hc25 => ?n25)
            case' y25 =>
             exfalso; omega
            case' n25 =>
             have hnkind_10 := hc25
             refine br (fun hc26 => ?y26) (fun hc26 => ?n26)
             case' y26 =>
              have hbad := hc26
             case' n26 =>
              have hgood := hc26
     case' n17 =>
      have hnkind_4 := hg17
      refine br (fun hc27 => ?y27) (fun hc27 => ?n27)
      case' y27 =>
       have hkkind_5 := hc27
       refine And.intro ⟨T.mixed, by decide +kernel⟩ ?_
       first | refine x_ix (by first | exact mapAt hp | exact fieldAt_ix hn | exact was_0 hW (by omega) | exact was_1 hW (by omega) | exact co6_0 (by omega) | exact co6_1 (by omega) | exact co_at (by omega) | exact co_0 (by omega)) ?_ | refine x_ixI (by first | exact mapAt hp | exact fieldAt_ix hn | exact was_0 hW (by omega) | exact was_1 hW (by omega) | exact co6_0 (by omega) | exact co6_1 (by omega) | exact co_at (by omega) | exact co_0 (by omega)) ?_
       first | refine x_ix (by first | exact mapAt hp | exact fieldAt_ix hn | exact was_0 hW (by omega) | exact was_1 hW (by omega) | exact co6_0 (by omega) | exact co6_1 (by omega) | exact co_at (by omega) | exact co_0 (by omega)) ?_ | refine x_ixI (by first | exact mapAt hp | exact fieldAt_ix hn | exact was_0 hW (by omega) | exact was_1 hW (by omega) | exact co6_0 (by omega) | exact co6_1 (by omega) | exact co_at (by omega) | exact co_0 (by omega)) ?_
       refine x_call T.en_115 (moved_any _ _) ?_
       refine x_call T.en_114 (by first | exact refPut_any _ _ _ hok2 (was_ok ho hall (by omega)) | exact refPut_any _ x.field _ hok2 hx0.1 | exact refPut_any _ ⟨named x.at_ x.name, 1, noB, [], (at0 (wasL l x)).worth⟩ _ hok2 (Nat.zero_le _) | exact refPut_any _ ⟨named x.at_ x.other, 1, noB, [], (at0 (wasL l x)).worth * x.factor⟩ _ (okL_put hok2 (Nat.zero_le _)) (Nat.zero_le _) | exact refPut_any _ ⟨x.at_, 4, noB, [], 0⟩ _ hok2 (Nat.zero_le _) | exact refPut_any _ ⟨x.at_, 1, noB, [], (at0 (wasL l x)).worth⟩ _ hok2 (Nat.zero_le _) | exact refPut_any _ ⟨x.at_, 2, x.other, [], 0⟩ _ hok2 (Nat.zero_le _) | exact refPut_any _ ⟨x.at_, 3, x.other, froms x.back, 0⟩ _ hok2 (froms_ok hx0.2.2)) ?_
       refine br (fun hc28 => ?y28) (fun hc28 => ?n28)
       case' y28 =>
        exfalso; omega
       case' n28 =>
        have hnkind_2 := hc28
        refine br (fun hc29 => ?y29) (fun hc29 => ?n29)
        case' y29 =>
         exfalso; omega
        case' n29 =>
         have hnkind_3 := hc29
         refine br (fun hc30 => ?y30) (fun hc30 => ?n30)
         case' y30 =>
          exfalso; omega
         case' n30 =>
          have hnkind_6 := hc30
          refine br (fun hc31 => ?y31) (fun hc31 => ?n31)
          case' y31 =>
           exfalso; omega
          case' n31 =>
           have hnkind_7 := hc31
           refine br (fun hc32 => ?y32) (fun hc32 => ?n32)
           case' y32 =>
            exfalso; omega
           case' n32 =>
            have hnkind_8 := hc32
            refine br (fun hc33 => ?y33) (fun hc33 => ?n33)
            case' y33 =>
             exfalso; omega
            case' n33 =>
             have hnkind_9 := hc33
             refine br (fun hc34 => ?y34) (fun hc34 => ?n34)
             case' y34 =>
              exfalso; omega
             case' n34 =>
              have hnkind_10 := hc34
              refine br (fun hc35 => ?y35) (fun hc35 => ?n35)
              case' y35 =>
               have hbad := hc35
              case' n35 =>
               have hgood := hc35
      case' n27 =>
       have hnkind_5 := hc27
       refine br (fun hc36 => ?y36) (fun hc36 => ?n36)
       case' y36 =>
        have hkkind_2 := hc36
        refine x_call T.en_114 (by first | exact refPut_any _ _ _ hok2 (was_ok ho hall (by omega)) | exact refPut_any _ x.field _ hok2 hx0.1 | exact refPut_any _ ⟨named x.at_ x.name, 1, noB, [], (at0 (wasL l x)).worth⟩ _ hok2 (Nat.zero_le _) | exact refPut_any _ ⟨named x.at_ x.other, 1, noB, [], (at0 (wasL l x)).worth * x.factor⟩ _ (okL_put hok2 (Nat.zero_le _)) (Nat.zero_le _) | exact refPut_any _ ⟨x.at_, 4, noB, [], 0⟩ _ hok2 (Nat.zero_le _) | exact refPut_any _ ⟨x.at_, 1, noB, [], (at0 (wasL l x)).worth⟩ _ hok2 (Nat.zero_le _) | exact refPut_any _ ⟨x.at_, 2, x.other, [], 0⟩ _ hok2 (Nat.zero_le _) | exact refPut_any _ ⟨x.at_, 3, x.other, froms x.back, 0⟩ _ hok2 (froms_ok hx0.2.2)) ?_
        refine br (fun hc37 => ?y37) (fun hc37 => ?n37)
        case' y37 =>
         exfalso; omega
        case' n37 =>
         have hnkind_3 := hc37
         refine br (fun hc38 => ?y38) (fun hc38 => ?n38)
         case' y38 =>
          exfalso; omega
         case' n38 =>
          have hnkind_6 := hc38
          refine br (fun hc39 => ?y39) (fun hc39 => ?n39)
          case' y39 =>
           exfalso; omega
          case' n39 =>
           have hnkind_7 := hc39
           refine br (fun hc40 => ?y40) (fun hc40 => ?n40)
           case' y40 =>
            exfalso; omega
           case' n40 =>
            have hnkind_8 := hc40
            refine br (fun hc41 => ?y41) (fun hc41 => ?n41)
            case' y41 =>
             exfalso; omega
            case' n41 =>
             have hnkind_9 := hc41
             refine br (fun hc42 => ?y42) (fun hc42 => ?n42)
             case' y42 =>
              exfalso; omega
             case' n42 =>
              have hnkind_10 := hc42
              refine br (fun hc43 => ?y43) (fun hc43 => ?n43)
              case' y43 =>
               have hbad := hc43
              case' n43 =>
               have hgood := hc43
       case' n36 =>
        have hnkind_2 := hc36
        refine br (fun hc44 => ?y44) (fun hc44 => ?n44)
        case' y44 =>
         have hkkind_3 := hc44
         refine And.intro ⟨T.mixed, by decide +kernel⟩ ?_
         first | refine x_ix (by first | exact mapAt hp | exact fieldAt_ix hn | exact was_0 hW (by omega) | exact was_1 hW (by omega) | exact co6_0 (by omega) | exact co6_1 (by omega) | exact co_at (by omega) | exact co_0 (by omega)) ?_ | refine x_ixI (by first | exact mapAt hp | exact fieldAt_ix hn | exact was_0 hW (by omega) | exact was_1 hW (by omega) | exact co6_0 (by omega) | exact co6_1 (by omega) | exact co_at (by omega) | exact co_0 (by omega)) ?_
         refine x_call T.en_65 (refFieldSame_any _ _ (was_ok ho hall (by omega))) ?_
         refine br (fun hc45 => ?y45) (fun hc45 => ?n45)
         case' y45 =>
          exfalso; omega
         case' n45 =>
          have hnkind_6 := hc45
          refine br (fun hc46 => ?y46) (fun hc46 => ?n46)
          case' y46 =>
           exfalso; omega
          case' n46 =>
           have hnkind_7 := hc46
           refine br (fun hc47 => ?y47) (fun hc47 => ?n47)
           case' y47 =>
            exfalso; omega
           case' n47 =>
            have hnkind_8 := hc47
            refine br (fun hc48 => ?y48) (fun hc48 => ?n48)
            case' y48 =>
             exfalso; omega
            case' n48 =>
             have hnkind_9 := hc48
             refine br (fun hc49 => ?y49) (fun hc49 => ?n49)
             case' y49 =>
              exfalso; omega
             case' n49 =>
              have hnkind_10 := hc49
              refine br (fun hc50 => ?y50) (fun hc50 => ?n50)
              case' y50 =>
               have hbad := hc50
              case' n50 =>
               have hgood := hc50
        case' n44 =>
         have hnkind_3 := hc44
         refine br (fun hc51 => ?y51) (fun hc51 => ?n51)
         case' y51 =>
          have hkkind_6 := hc51
          refine And.intro ⟨T.mixed, by decide +kernel⟩ ?_
          first | refine x_ix (by first | exact mapAt hp | exact fieldAt_ix hn | exact was_0 hW (by omega) | exact was_1 hW (by omega) | exact co6_0 (by omega) | exact co6_1 (by omega) | exact co_at (by omega) | exact co_0 (by omega)) ?_ | refine x_ixI (by first | exact mapAt hp | exact fieldAt_ix hn | exact was_0 hW (by omega) | exact was_1 hW (by omega) | exact co6_0 (by omega) | exact co6_1 (by omega) | exact co_at (by omega) | exact co_0 (by omega)) ?_
          first | refine x_bin (pr_add1 (by omega)) rfl ?_ | refine x_bin (pr_mul (wrap64 _ (mul_bound (was_worth hl hall (by omega)) (factor_ok hx (by omega))))) rfl ?_ | refine x_mul ?_ | refine x_bin rfl rfl ?_
          first | refine x_ix (by first | exact mapAt hp | exact fieldAt_ix hn | exact was_0 hW (by omega) | exact was_1 hW (by omega) | exact co6_0 (by omega) | exact co6_1 (by omega) | exact co_at (by omega) | exact co_0 (by omega)) ?_ | refine x_ixI (by first | exact mapAt hp | exact fieldAt_ix hn | exact was_0 hW (by omega) | exact was_1 hW (by omega) | exact co6_0 (by omega) | exact co6_1 (by omega) | exact co_at (by omega) | exact co_0 (by omega)) ?_
          refine br (fun hg52 => ?y52) (fun hg52 => ?n52)
          case' y52 =>
           refine And.intro ⟨T.mixed, by decide +kernel⟩ ?_
           first | refine x_ix (by first | exact mapAt hp | exact fieldAt_ix hn | exact was_0 hW (by omega) | exact was_1 hW (by omega) | exact co6_0 (by omega) | exact co6_1 (by omega) | exact co_at (by omega) | exact co_0 (by omega)) ?_ | refine x_ixI (by first | exact mapAt hp | exact fieldAt_ix hn | exact was_0 hW (by omega) | exact was_1 hW (by omega) | exact co6_0 (by omega) | exact co6_1 (by omega) | exact co_at (by omega) | exact co_0 (by omega)) ?_
           first | refine x_ix (by first | exact mapAt hp | exact fieldAt_ix hn | exact was_0 hW (by omega) | exact was_1 hW (by omega) | exact co6_0 (by omega) | exact co6_1 (by omega) | exact co_at (by omega) | exact co_0 (by omega)) ?_ | refine x_ixI (by first | exact mapAt hp | exact fieldAt_ix hn | exact was_0 hW (by omega) | exact was_1 hW (by omega) | exact co6_0 (by omega) | exact co6_1 (by omega) | exact co_at (by omega) | exact co_0 (by omega)) ?_
           refine x_call T.en_114 (by first | exact refPut_any _ _ _ hok2 (was_ok ho hall (by omega)) | exact refPut_any _ x.field _ hok2 hx0.1 | exact refPut_any _ ⟨named x.at_ x.name, 1, noB, [], (at0 (wasL l x)).worth⟩ _ hok2 (Nat.zero_le _) | exact refPut_any _ ⟨named x.at_ x.other, 1, noB, [], (at0 (wasL l x)).worth * x.factor⟩ _ (okL_put hok2 (Nat.zero_le _)) (Nat.zero_le _) | exact refPut_any _ ⟨x.at_, 4, noB, [], 0⟩ _ hok2 (Nat.zero_le _) | exact refPut_any _ ⟨x.at_, 1, noB, [], (at0 (wasL l x)).worth⟩ _ hok2 (Nat.zero_le _) | exact refPut_any _ ⟨x.at_, 2, x.other, [], 0⟩ _ hok2 (Nat.zero_le _) | exact refPut_any _ ⟨x.at_, 3, x.other, froms x.back, 0⟩ _ hok2 (froms_ok hx0.2.2)) ?_
           first | refine x_ix (by first | exact mapAt hp | exact fieldAt_ix hn | exact was_0 hW (by omega) | exact was_1 hW (by omega) | exact co6_0 (by omega) | exact co6_1 (by omega) | exact co_at (by omega) | exact co_0 (by omega)) ?_ | refine x_ixI (by first | exact mapAt hp | exact fieldAt_ix hn | exact was_0 hW (by omega) | exact was_1 hW (by omega) | exact co6_0 (by omega) | exact co6_1 (by omega) | exact co_at (by omega) | exact co_0 (by omega)) ?_
           refine x_call T.en_114 (by first | exact refPut_any _ _ _ hok2 (was_ok ho hall (by omega)) | exact refPut_any _ x.field _ hok2 hx0.1 | exact refPut_any _ ⟨named x.at_ x.name, 1, noB, [], (at0 (wasL l x)).worth⟩ _ hok2 (Nat.zero_le _) | exact refPut_any _ ⟨named x.at_ x.other, 1, noB, [], (at0 (wasL l x)).worth * x.factor⟩ _ (okL_put hok2 (Nat.zero_le _)) (Nat.zero_le _) | exact refPut_any _ ⟨x.at_, 4, noB, [], 0⟩ _ hok2 (Nat.zero_le _) | exact refPut_any _ ⟨x.at_, 1, noB, [], (at0 (wasL l x)).worth⟩ _ hok2 (Nat.zero_le _) | exact refPut_any _ ⟨x.at_, 2, x.other, [], 0⟩ _ hok2 (Nat.zero_le _) | exact refPut_any _ ⟨x.at_, 3, x.other, froms x.back, 0⟩ _ hok2 (froms_ok hx0.2.2)) ?_
           refine br (fun hc53 => ?y53) (fun hc53 => ?n53)
           case' y53 =>
            exfalso; omega
           case' n53 =>
            have hnkind_7 := hc53
            refine br (fun hc54 => ?y54) (fun hc54 => ?n54)
            case' y54 =>
             exfalso; omega
            case' n54 =>
             have hnkind_8 := hc54
             refine br (fun hc55 => ?y55) (fun hc55 => ?n55)
             case' y55 =>
              exfalso; omega
             case' n55 =>
              have hnkind_9 := hc55
              refine br (fun hc56 => ?y56) (fun hc56 => ?n56)
              case' y56 =>
               exfalso; omega
              case' n56 =>
               have hnkind_10 := hc56
               refine br (fun hc57 => ?y57) (fun hc57 => ?n57)
               case' y57 =>
                have hbad := hc57
               case' n57 =>
                have hgood := hc57
          case' n52 =>
           refine And.intro ⟨T.mixed, by decide +kernel⟩ ?_
           first | refine x_ix (by first | exact mapAt hp | exact fieldAt_ix hn | exact was_0 hW (by omega) | exact was_1 hW (by omega) | exact co6_0 (by omega) | exact co6_1 (by omega) | exact co_at (by omega) | exact co_0 (by omega)) ?_ | refine x_ixI (by first | exact mapAt hp | exact fieldAt_ix hn | exact was_0 hW (by omega) | exact was_1 hW (by omega) | exact co6_0 (by omega) | exact co6_1 (by omega) | exact co_at (by omega) | exact co_0 (by omega)) ?_
           first | refine x_ix (by first | exact mapAt hp | exact fieldAt_ix hn | exact was_0 hW (by omega) | exact was_1 hW (by omega) | exact co6_0 (by omega) | exact co6_1 (by omega) | exact co_at (by omega) | exact co_0 (by omega)) ?_ | refine x_ixI (by first | exact mapAt hp | exact fieldAt_ix hn | exact was_0 hW (by omega) | exact was_1 hW (by omega) | exact co6_0 (by omega) | exact co6_1 (by omega) | exact co_at (by omega) | exact co_0 (by omega)) ?_
           refine x_call T.en_114 (by first | exact refPut_any _ _ _ hok2 (was_ok ho hall (by omega)) | exact refPut_any _ x.field _ hok2 hx0.1 | exact refPut_any _ ⟨named x.at_ x.name, 1, noB, [], (at0 (wasL l x)).worth⟩ _ hok2 (Nat.zero_le _) | exact refPut_any _ ⟨named x.at_ x.other, 1, noB, [], (at0 (wasL l x)).worth * x.factor⟩ _ (okL_put hok2 (Nat.zero_le _)) (Nat.zero_le _) | exact refPut_any _ ⟨x.at_, 4, noB, [], 0⟩ _ hok2 (Nat.zero_le _) | exact refPut_any _ ⟨x.at_, 1, noB, [], (at0 (wasL l x)).worth⟩ _ hok2 (Nat.zero_le _) | exact refPut_any _ ⟨x.at_, 2, x.other, [], 0⟩ _ hok2 (Nat.zero_le _) | exact refPut_any _ ⟨x.at_, 3, x.other, froms x.back, 0⟩ _ hok2 (froms_ok hx0.2.2)) ?_
           first | refine x_ix (by first | exact mapAt hp | exact fieldAt_ix hn | exact was_0 hW (by omega) | exact was_1 hW (by omega) | exact co6_0 (by omega) | exact co6_1 (by omega) | exact co_at (by omega) | exact co_0 (by omega)) ?_ | refine x_ixI (by first | exact mapAt hp | exact fieldAt_ix hn | exact was_0 hW (by omega) | exact was_1 hW (by omega) | exact co6_0 (by omega) | exact co6_1 (by omega) | exact co_at (by omega) | exact co_0 (by omega)) ?_
           refine x_call T.en_114 (by first | exact refPut_any _ _ _ hok2 (was_ok ho hall (by omega)) | exact refPut_any _ x.field _ hok2 hx0.1 | exact refPut_any _ ⟨named x.at_ x.name, 1, noB, [], (at0 (wasL l x)).worth⟩ _ hok2 (Nat.zero_le _) | exact refPut_any _ ⟨named x.at_ x.other, 1, noB, [], (at0 (wasL l x)).worth * x.factor⟩ _ (okL_put hok2 (Nat.zero_le _)) (Nat.zero_le _) | exact refPut_any _ ⟨x.at_, 4, noB, [], 0⟩ _ hok2 (Nat.zero_le _) | exact refPut_any _ ⟨x.at_, 1, noB, [], (at0 (wasL l x)).worth⟩ _ hok2 (Nat.zero_le _) | exact refPut_any _ ⟨x.at_, 2, x.other, [], 0⟩ _ hok2 (Nat.zero_le _) | exact refPut_any _ ⟨x.at_, 3, x.other, froms x.back, 0⟩ _ hok2 (froms_ok hx0.2.2)) ?_
           refine br (fun hc58 => ?y58) (fun hc58 => ?n58)
           case' y58 =>
            exfalso; omega
           case' n58 =>
            have hnkind_7 := hc58
            refine br (fun hc59 => ?y59) (fun hc59 => ?n59)
            case' y59 =>
             exfalso; omega
            case' n59 =>
             have hnkind_8 := hc59
             refine br (fun hc60 => ?y60) (fun hc60 => ?n60)
             case' y60 =>
              exfalso; omega
             case' n60 =>
              have hnkind_9 := hc60
              refine br (fun hc61 => ?y61) (fun hc61 => ?n61)
              case' y61 =>
               exfalso; omega
              case' n61 =>
               have hnkind_10 := hc61
               refine br (fun hc62 => ?y62) (fun hc62 => ?n62)
               case' y62 =>
                have hbad := hc62
               case' n62 =>
                have hgood := hc62
         case' n51 =>
          have hnkind_6 := hc51
          refine br (fun hc63 => ?y63) (fun hc63 => ?n63)
          case' y63 =>
           have hkkind_7 := hc63
           refine And.intro ⟨T.mixed, by decide +kernel⟩ ?_
           first | refine x_ix (by first | exact mapAt hp | exact fieldAt_ix hn | exact was_0 hW (by omega) | exact was_1 hW (by omega) | exact co6_0 (by omega) | exact co6_1 (by omega) | exact co_at (by omega) | exact co_0 (by omega)) ?_ | refine x_ixI (by first | exact mapAt hp | exact fieldAt_ix hn | exact was_0 hW (by omega) | exact was_1 hW (by omega) | exact co6_0 (by omega) | exact co6_1 (by omega) | exact co_at (by omega) | exact co_0 (by omega)) ?_
           refine br (fun hg64 => ?y64) (fun hg64 => ?n64)
           case' y64 =>
            first | refine x_ix (by first | exact mapAt hp | exact fieldAt_ix hn | exact was_0 hW (by omega) | exact was_1 hW (by omega) | exact co6_0 (by omega) | exact co6_1 (by omega) | exact co_at (by omega) | exact co_0 (by omega)) ?_ | refine x_ixI (by first | exact mapAt hp | exact fieldAt_ix hn | exact was_0 hW (by omega) | exact was_1 hW (by omega) | exact co6_0 (by omega) | exact co6_1 (by omega) | exact co_at (by omega) | exact co_0 (by omega)) ?_
            first | refine x_ix (by first | exact mapAt hp | exact fieldAt_ix hn | exact was_0 hW (by omega) | exact was_1 hW (by omega) | exact co6_0 (by omega) | exact co6_1 (by omega) | exact co_at (by omega) | exact co_0 (by omega)) ?_ | refine x_ixI (by first | exact mapAt hp | exact fieldAt_ix hn | exact was_0 hW (by omega) | exact was_1 hW (by omega) | exact co6_0 (by omega) | exact co6_1 (by omega) | exact co_at (by omega) | exact co_0 (by omega)) ?_
            refine x_call T.en_114 (by first | exact refPut_any _ _ _ hok2 (was_ok ho hall (by omega)) | exact refPut_any _ x.field _ hok2 hx0.1 | exact refPut_any _ ⟨named x.at_ x.name, 1, noB, [], (at0 (wasL l x)).worth⟩ _ hok2 (Nat.zero_le _) | exact refPut_any _ ⟨named x.at_ x.other, 1, noB, [], (at0 (wasL l x)).worth * x.factor⟩ _ (okL_put hok2 (Nat.zero_le _)) (Nat.zero_le _) | exact refPut_any _ ⟨x.at_, 4, noB, [], 0⟩ _ hok2 (Nat.zero_le _) | exact refPut_any _ ⟨x.at_, 1, noB, [], (at0 (wasL l x)).worth⟩ _ hok2 (Nat.zero_le _) | exact refPut_any _ ⟨x.at_, 2, x.other, [], 0⟩ _ hok2 (Nat.zero_le _) | exact refPut_any _ ⟨x.at_, 3, x.other, froms x.back, 0⟩ _ hok2 (froms_ok hx0.2.2)) ?_
            refine br (fun hc65 => ?y65) (fun hc65 => ?n65)
            case' y65 =>
             exfalso; omega
            case' n65 =>
             have hnkind_8 := hc65
             refine br (fun hc66 => ?y66) (fun hc66 => ?n66)
             case' y66 =>
              exfalso; omega
             case' n66 =>
              have hnkind_9 := hc66
              refine br (fun hc67 => ?y67) (fun hc67 => ?n67)
              case' y67 =>
               exfalso; omega
              case' n67 =>
               have hnkind_10 := hc67
               refine br (fun hc68 => ?y68) (fun hc68 => ?n68)
               case' y68 =>
                have hbad := hc68
               case' n68 =>
                have hgood := hc68
           case' n64 =>
            first | refine x_ix (by first | exact mapAt hp | exact fieldAt_ix hn | exact was_0 hW (by omega) | exact was_1 hW (by omega) | exact co6_0 (by omega) | exact co6_1 (by omega) | exact co_at (by omega) | exact co_0 (by omega)) ?_ | refine x_ixI (by first | exact mapAt hp | exact fieldAt_ix hn | exact was_0 hW (by omega) | exact was_1 hW (by omega) | exact co6_0 (by omega) | exact co6_1 (by omega) | exact co_at (by omega) | exact co_0 (by omega)) ?_
            refine x_call T.en_114 (by first | exact refPut_any _ _ _ hok2 (was_ok ho hall (by omega)) | exact refPut_any _ x.field _ hok2 hx0.1 | exact refPut_any _ ⟨named x.at_ x.name, 1, noB, [], (at0 (wasL l x)).worth⟩ _ hok2 (Nat.zero_le _) | exact refPut_any _ ⟨named x.at_ x.other, 1, noB, [], (at0 (wasL l x)).worth * x.factor⟩ _ (okL_put hok2 (Nat.zero_le _)) (Nat.zero_le _) | exact refPut_any _ ⟨x.at_, 4, noB, [], 0⟩ _ hok2 (Nat.zero_le _) | exact refPut_any _ ⟨x.at_, 1, noB, [], (at0 (wasL l x)).worth⟩ _ hok2 (Nat.zero_le _) | exact refPut_any _ ⟨x.at_, 2, x.other, [], 0⟩ _ hok2 (Nat.zero_le _) | exact refPut_any _ ⟨x.at_, 3, x.other, froms x.back, 0⟩ _ hok2 (froms_ok hx0.2.2)) ?_
            refine br (fun hc69 => ?y69) (fun hc69 => ?n69)
            case' y69 =>
             exfalso; omega
            case' n69 =>
             have hnkind_8 := hc69
             refine br (fun hc70 => ?y70) (fun hc70 => ?n70)
             case' y70 =>
              exfalso; omega
             case' n70 =>
              have hnkind_9 := hc70
              refine br (fun hc71 => ?y71) (fun hc71 => ?n71)
              case' y71 =>
               exfalso; omega
              case' n71 =>
               have hnkind_10 := hc71
               refine br (fun hc72 => ?y72) (fun hc72 => ?n72)
               case' y72 =>
                have hbad := hc72
               case' n72 =>
                have hgood := hc72
          case' n63 =>
           have hnkind_7 := hc63
           refine br (fun hc73 => ?y73) (fun hc73 => ?n73)
           case' y73 =>
            have hkkind_8 := hc73
            refine And.intro ⟨T.mixed, by decide +kernel⟩ ?_
            first | refine x_ix (by first | exact mapAt hp | exact fieldAt_ix hn | exact was_0 hW (by omega) | exact was_1 hW (by omega) | exact co6_0 (by omega) | exact co6_1 (by omega) | exact co_at (by omega) | exact co_0 (by omega)) ?_ | refine x_ixI (by first | exact mapAt hp | exact fieldAt_ix hn | exact was_0 hW (by omega) | exact was_1 hW (by omega) | exact co6_0 (by omega) | exact co6_1 (by omega) | exact co_at (by omega) | exact co_0 (by omega)) ?_
            refine br (fun hg74 => ?y74) (fun hg74 => ?n74)
            case' y74 =>
             first | refine x_ix (by first | exact mapAt hp | exact fieldAt_ix hn | exact was_0 hW (by omega) | exact was_1 hW (by omega) | exact co6_0 (by omega) | exact co6_1 (by omega) | exact co_at (by omega) | exact co_0 (by omega)) ?_ | refine x_ixI (by first | exact mapAt hp | exact fieldAt_ix hn | exact was_0 hW (by omega) | exact was_1 hW (by omega) | exact co6_0 (by omega) | exact co6_1 (by omega) | exact co_at (by omega) | exact co_0 (by omega)) ?_
             refine br (fun hg75 => ?y75) (fun hg75 => ?n75)
             case' y75 =>
              first | refine x_ix (by first | exact mapAt hp | exact fieldAt_ix hn | exact was_0 hW (by omega) | exact was_1 hW (by omega) | exact co6_0 (by omega) | exact co6_1 (by omega) | exact co_at (by omega) | exact co_0 (by omega)) ?_ | refine x_ixI (by first | exact mapAt hp | exact fieldAt_ix hn | exact was_0 hW (by omega) | exact was_1 hW (by omega) | exact co6_0 (by omega) | exact co6_1 (by omega) | exact co_at (by omega) | exact co_0 (by omega)) ?_
              refine x_call T.en_117 (refFroms_any _ (by first | exact hx0.2.1 | exact hx0.2.2)) ?_
              refine x_call T.en_116 (refSames_any _ _ (was_ok ho hall (by omega))) ?_
              refine And.intro ⟨T.mixed, by decide +kernel⟩ ?_
              first | refine x_ix (by first | exact mapAt hp | exact fieldAt_ix hn | exact was_0 hW (by omega) | exact was_1 hW (by omega) | exact co6_0 (by omega) | exact co6_1 (by omega) | exact co_at (by omega) | exact co_0 (by omega)) ?_ | refine x_ixI (by first | exact mapAt hp | exact fieldAt_ix hn | exact was_0 hW (by omega) | exact was_1 hW (by omega) | exact co6_0 (by omega) | exact co6_1 (by omega) | exact co_at (by omega) | exact co_0 (by omega)) ?_
              refine x_call T.en_117 (refFroms_any _ (by first | exact hx0.2.1 | exact hx0.2.2)) ?_
              refine x_call T.en_114 (by first | exact refPut_any _ _ _ hok2 (was_ok ho hall (by omega)) | exact refPut_any _ x.field _ hok2 hx0.1 | exact refPut_any _ ⟨named x.at_ x.name, 1, noB, [], (at0 (wasL l x)).worth⟩ _ hok2 (Nat.zero_le _) | exact refPut_any _ ⟨named x.at_ x.other, 1, noB, [], (at0 (wasL l x)).worth * x.factor⟩ _ (okL_put hok2 (Nat.zero_le _)) (Nat.zero_le _) | exact refPut_any _ ⟨x.at_, 4, noB, [], 0⟩ _ hok2 (Nat.zero_le _) | exact refPut_any _ ⟨x.at_, 1, noB, [], (at0 (wasL l x)).worth⟩ _ hok2 (Nat.zero_le _) | exact refPut_any _ ⟨x.at_, 2, x.other, [], 0⟩ _ hok2 (Nat.zero_le _) | exact refPut_any _ ⟨x.at_, 3, x.other, froms x.back, 0⟩ _ hok2 (froms_ok hx0.2.2)) ?_
              refine br (fun hc76 => ?y76) (fun hc76 => ?n76)
              case' y76 =>
               exfalso; omega
              case' n76 =>
               have hnkind_9 := hc76
               refine br (fun hc77 => ?y77) (fun hc77 => ?n77)
               case' y77 =>
                exfalso; omega
               case' n77 =>
                have hnkind_10 := hc77
                refine br (fun hc78 => ?y78) (fun hc78 => ?n78)
                case' y78 =>
                 have hbad := hc78
                case' n78 =>
                 have hgood := hc78
             case' n75 =>
              refine And.intro ⟨T.mixed, by decide +kernel⟩ ?_
              first | refine x_ix (by first | exact mapAt hp | exact fieldAt_ix hn | exact was_0 hW (by omega) | exact was_1 hW (by omega) | exact co6_0 (by omega) | exact co6_1 (by omega) | exact co_at (by omega) | exact co_0 (by omega)) ?_ | refine x_ixI (by first | exact mapAt hp | exact fieldAt_ix hn | exact was_0 hW (by omega) | exact was_1 hW (by omega) | exact co6_0 (by omega) | exact co6_1 (by omega) | exact co_at (by omega) | exact co_0 (by omega)) ?_
              refine x_call T.en_117 (refFroms_any _ (by first | exact hx0.2.1 | exact hx0.2.2)) ?_
              refine x_call T.en_114 (by first | exact refPut_any _ _ _ hok2 (was_ok ho hall (by omega)) | exact refPut_any _ x.field _ hok2 hx0.1 | exact refPut_any _ ⟨named x.at_ x.name, 1, noB, [], (at0 (wasL l x)).worth⟩ _ hok2 (Nat.zero_le _) | exact refPut_any _ ⟨named x.at_ x.other, 1, noB, [], (at0 (wasL l x)).worth * x.factor⟩ _ (okL_put hok2 (Nat.zero_le _)) (Nat.zero_le _) | exact refPut_any _ ⟨x.at_, 4, noB, [], 0⟩ _ hok2 (Nat.zero_le _) | exact refPut_any _ ⟨x.at_, 1, noB, [], (at0 (wasL l x)).worth⟩ _ hok2 (Nat.zero_le _) | exact refPut_any _ ⟨x.at_, 2, x.other, [], 0⟩ _ hok2 (Nat.zero_le _) | exact refPut_any _ ⟨x.at_, 3, x.other, froms x.back, 0⟩ _ hok2 (froms_ok hx0.2.2)) ?_
              refine br (fun hc79 => ?y79) (fun hc79 => ?n79)
              case' y79 =>
               exfalso; omega
              case' n79 =>
               have hnkind_9 := hc79
               refine br (fun hc80 => ?y80) (fun hc80 => ?n80)
               case' y80 =>
                exfalso; omega
               case' n80 =>
                have hnkind_10 := hc80
                refine br (fun hc81 => ?y81) (fun hc81 => ?n81)
                case' y81 =>
                 have hbad := hc81
                case' n81 =>
                 have hgood := hc81
            case' n74 =>
             refine brF ?_
             refine And.intro ⟨T.mixed, by decide +kernel⟩ ?_
             first | refine x_ix (by first | exact mapAt hp | exact fieldAt_ix hn | exact was_0 hW (by omega) | exact was_1 hW (by omega) | exact co6_0 (by omega) | exact co6_1 (by omega) | exact co_at (by omega) | exact co_0 (by omega)) ?_ | refine x_ixI (by first | exact mapAt hp | exact fieldAt_ix hn | exact was_0 hW (by omega) | exact was_1 hW (by omega) | exact co6_0 (by omega) | exact co6_1 (by omega) | exact co_at (by omega) | exact co_0 (by omega)) ?_
             refine x_call T.en_117 (refFroms_any _ (by first | exact hx0.2.1 | exact hx0.2.2)) ?_
             refine x_call T.en_114 (by first | exact refPut_any _ _ _ hok2 (was_ok ho hall (by omega)) | exact refPut_any _ x.field _ hok2 hx0.1 | exact refPut_any _ ⟨named x.at_ x.name, 1, noB, [], (at0 (wasL l x)).worth⟩ _ hok2 (Nat.zero_le _) | exact refPut_any _ ⟨named x.at_ x.other, 1, noB, [], (at0 (wasL l x)).worth * x.factor⟩ _ (okL_put hok2 (Nat.zero_le _)) (Nat.zero_le _) | exact refPut_any _ ⟨x.at_, 4, noB, [], 0⟩ _ hok2 (Nat.zero_le _) | exact refPut_any _ ⟨x.at_, 1, noB, [], (at0 (wasL l x)).worth⟩ _ hok2 (Nat.zero_le _) | exact refPut_any _ ⟨x.at_, 2, x.other, [], 0⟩ _ hok2 (Nat.zero_le _) | exact refPut_any _ ⟨x.at_, 3, x.other, froms x.back, 0⟩ _ hok2 (froms_ok hx0.2.2)) ?_
             refine br (fun hc83 => ?y83) (fun hc83 => ?n83)
             case' y83 =>
              exfalso; omega
             case' n83 =>
              have hnkind_9 := hc83
              refine br (fun hc84 => ?y84) (fun hc84 => ?n84)
              case' y84 =>
               exfalso; omega
              case' n84 =>
               have hnkind_10 := hc84
               refine br (fun hc85 => ?y85) (fun hc85 => ?n85)
               case' y85 =>
                have hbad := hc85
               case' n85 =>
                have hgood := hc85
           case' n73 =>
            have hnkind_8 := hc73
            refine br (fun hc86 => ?y86) (fun hc86 => ?n86)
            case' y86 =>
             have hkkind_9 := hc86
             refine And.intro ⟨T.mixed, by decide +kernel⟩ ?_
             first | refine x_ix (by first | exact mapAt hp | exact fieldAt_ix hn | exact was_0 hW (by omega) | exact was_1 hW (by omega) | exact co6_0 (by omega) | exact co6_1 (by omega) | exact co_at (by omega) | exact co_0 (by omega)) ?_ | refine x_ixI (by first | exact mapAt hp | exact fieldAt_ix hn | exact was_0 hW (by omega) | exact was_1 hW (by omega) | exact co6_0 (by omega) | exact co6_1 (by omega) | exact co_at (by omega) | exact co_0 (by omega)) ?_
             refine br (fun hg87 => ?y87) (fun hg87 => ?n87)
             case' y87 =>
              first | refine x_ix (by first | exact mapAt hp | exact fieldAt_ix hn | exact was_0 hW (by omega) | exact was_1 hW (by omega) | exact co6_0 (by omega) | exact co6_1 (by omega) | exact co_at (by omega) | exact co_0 (by omega)) ?_ | refine x_ixI (by first | exact mapAt hp | exact fieldAt_ix hn | exact was_0 hW (by omega) | exact was_1 hW (by omega) | exact co6_0 (by omega) | exact co6_1 (by omega) | exact co_at (by omega) | exact co_0 (by omega)) ?_
              refine br (fun hg88 => ?y88) (fun hg88 => ?n88)
              case' y88 =>
               first | refine x_ix (by first | exact mapAt hp | exact fieldAt_ix hn | exact was_0 hW (by omega) | exact was_1 hW (by omega) | exact co6_0 (by omega) | exact co6_1 (by omega) | exact co_at (by omega) | exact co_0 (by omega)) ?_ | refine x_ixI (by first | exact mapAt hp | exact fieldAt_ix hn | exact was_0 hW (by omega) | exact was_1 hW (by omega) | exact co6_0 (by omega) | exact co6_1 (by omega) | exact co_at (by omega) | exact co_0 (by omega)) ?_
               first | refine x_ix (by first | exact mapAt hp | exact fieldAt_ix hn | exact was_0 hW (by omega) | exact was_1 hW (by omega) | exact co6_0 (by omega) | exact co6_1 (by omega) | exact co_at (by omega) | exact co_0 (by omega)) ?_ | refine x_ixI (by first | exact mapAt hp | exact fieldAt_ix hn | exact was_0 hW (by omega) | exact was_1 hW (by omega) | exact co6_0 (by omega) | exact co6_1 (by omega) | exact co_at (by omega) | exact co_0 (by omega)) ?_
               first | refine x_bin (pr_add1 (by omega)) rfl ?_ | refine x_bin (pr_mul (wrap64 _ (mul_bound (was_worth hl hall (by omega)) (factor_ok hx (by omega))))) rfl ?_ | refine x_mul ?_ | refine x_bin rfl rfl ?_
               refine And.intro ⟨T.mixed, by decide +kernel⟩ ?_
               first | refine x_ix (by first | exact mapAt hp | exact fieldAt_ix hn | exact was_0 hW (by omega) | exact was_1 hW (by omega) | exact co6_0 (by omega) | exact co6_1 (by omega) | exact co_at (by omega) | exact co_0 (by omega)) ?_ | refine x_ixI (by first | exact mapAt hp | exact fieldAt_ix hn | exact was_0 hW (by omega) | exact was_1 hW (by omega) | exact co6_0 (by omega) | exact co6_1 (by omega) | exact co_at (by omega) | exact co_0 (by omega)) ?_
               first | refine x_ix (by first | exact mapAt hp | exact fieldAt_ix hn | exact was_0 hW (by omega) | exact was_1 hW (by omega) | exact co6_0 (by omega) | exact co6_1 (by omega) | exact co_at (by omega) | exact co_0 (by omega)) ?_ | refine x_ixI (by first | exact mapAt hp | exact fieldAt_ix hn | exact was_0 hW (by omega) | exact was_1 hW (by omega) | exact co6_0 (by omega) | exact co6_1 (by omega) | exact co_at (by omega) | exact co_0 (by omega)) ?_
               refine x_call T.en_114 (by first | exact refPut_any _ _ _ hok2 (was_ok ho hall (by omega)) | exact refPut_any _ x.field _ hok2 hx0.1 | exact refPut_any _ ⟨named x.at_ x.name, 1, noB, [], (at0 (wasL l x)).worth⟩ _ hok2 (Nat.zero_le _) | exact refPut_any _ ⟨named x.at_ x.other, 1, noB, [], (at0 (wasL l x)).worth * x.factor⟩ _ (okL_put hok2 (Nat.zero_le _)) (Nat.zero_le _) | exact refPut_any _ ⟨x.at_, 4, noB, [], 0⟩ _ hok2 (Nat.zero_le _) | exact refPut_any _ ⟨x.at_, 1, noB, [], (at0 (wasL l x)).worth⟩ _ hok2 (Nat.zero_le _) | exact refPut_any _ ⟨x.at_, 2, x.other, [], 0⟩ _ hok2 (Nat.zero_le _) | exact refPut_any _ ⟨x.at_, 3, x.other, froms x.back, 0⟩ _ hok2 (froms_ok hx0.2.2)) ?_
               refine br (fun hc89 => ?y89) (fun hc89 => ?n89)
               case' y89 =>
                exfalso; omega
               case' n89 =>
                have hnkind_10 := hc89
                refine br (fun hc90 => ?y90) (fun hc90 => ?n90)
                case' y90 =>
                 have hbad := hc90
                case' n90 =>
                 have hgood := hc90
              case' n88 =>
               refine And.intro ⟨T.mixed, by decide +kernel⟩ ?_
               first | refine x_ix (by first | exact mapAt hp | exact fieldAt_ix hn | exact was_0 hW (by omega) | exact was_1 hW (by omega) | exact co6_0 (by omega) | exact co6_1 (by omega) | exact co_at (by omega) | exact co_0 (by omega)) ?_ | refine x_ixI (by first | exact mapAt hp | exact fieldAt_ix hn | exact was_0 hW (by omega) | exact was_1 hW (by omega) | exact co6_0 (by omega) | exact co6_1 (by omega) | exact co_at (by omega) | exact co_0 (by omega)) ?_
               first | refine x_ix (by first | exact mapAt hp | exact fieldAt_ix hn | exact was_0 hW (by omega) | exact was_1 hW (by omega) | exact co6_0 (by omega) | exact co6_1 (by omega) | exact co_at (by omega) | exact co_0 (by omega)) ?_ | refine x_ixI (by first | exact mapAt hp | exact fieldAt_ix hn | exact was_0 hW (by omega) | exact was_1 hW (by omega) | exact co6_0 (by omega) | exact co6_1 (by omega) | exact co_at (by omega) | exact co_0 (by omega)) ?_
               refine x_call T.en_114 (by first | exact refPut_any _ _ _ hok2 (was_ok ho hall (by omega)) | exact refPut_any _ x.field _ hok2 hx0.1 | exact refPut_any _ ⟨named x.at_ x.name, 1, noB, [], (at0 (wasL l x)).worth⟩ _ hok2 (Nat.zero_le _) | exact refPut_any _ ⟨named x.at_ x.other, 1, noB, [], (at0 (wasL l x)).worth * x.factor⟩ _ (okL_put hok2 (Nat.zero_le _)) (Nat.zero_le _) | exact refPut_any _ ⟨x.at_, 4, noB, [], 0⟩ _ hok2 (Nat.zero_le _) | exact refPut_any _ ⟨x.at_, 1, noB, [], (at0 (wasL l x)).worth⟩ _ hok2 (Nat.zero_le _) | exact refPut_any _ ⟨x.at_, 2, x.other, [], 0⟩ _ hok2 (Nat.zero_le _) | exact refPut_any _ ⟨x.at_, 3, x.other, froms x.back, 0⟩ _ hok2 (froms_ok hx0.2.2)) ?_
               refine br (fun hc91 => ?y91) (fun hc91 => ?n91)
               case' y91 =>
                exfalso; omega
               case' n91 =>
                have hnkind_10 := hc91
                refine br (fun hc92 => ?y92) (fun hc92 => ?n92)
                case' y92 =>
                 have hbad := hc92
                case' n92 =>
                 have hgood := hc92
             case' n87 =>
              refine brF ?_
              refine And.intro ⟨T.mixed, by decide +kernel⟩ ?_
              first | refine x_ix (by first | exact mapAt hp | exact fieldAt_ix hn | exact was_0 hW (by omega) | exact was_1 hW (by omega) | exact co6_0 (by omega) | exact co6_1 (by omega) | exact co_at (by omega) | exact co_0 (by omega)) ?_ | refine x_ixI (by first | exact mapAt hp | exact fieldAt_ix hn | exact was_0 hW (by omega) | exact was_1 hW (by omega) | exact co6_0 (by omega) | exact co6_1 (by omega) | exact co_at (by omega) | exact co_0 (by omega)) ?_
              first | refine x_ix (by first | exact mapAt hp | exact fieldAt_ix hn | exact was_0 hW (by omega) | exact was_1 hW (by omega) | exact co6_0 (by omega) | exact co6_1 (by omega) | exact co_at (by omega) | exact co_0 (by omega)) ?_ | refine x_ixI (by first | exact mapAt hp | exact fieldAt_ix hn | exact was_0 hW (by omega) | exact was_1 hW (by omega) | exact co6_0 (by omega) | exact co6_1 (by omega) | exact co_at (by omega) | exact co_0 (by omega)) ?_
              refine x_call T.en_114 (by first | exact refPut_any _ _ _ hok2 (was_ok ho hall (by omega)) | exact refPut_any _ x.field _ hok2 hx0.1 | exact refPut_any _ ⟨named x.at_ x.name, 1, noB, [], (at0 (wasL l x)).worth⟩ _ hok2 (Nat.zero_le _) | exact refPut_any _ ⟨named x.at_ x.other, 1, noB, [], (at0 (wasL l x)).worth * x.factor⟩ _ (okL_put hok2 (Nat.zero_le _)) (Nat.zero_le _) | exact refPut_any _ ⟨x.at_, 4, noB, [], 0⟩ _ hok2 (Nat.zero_le _) | exact refPut_any _ ⟨x.at_, 1, noB, [], (at0 (wasL l x)).worth⟩ _ hok2 (Nat.zero_le _) | exact refPut_any _ ⟨x.at_, 2, x.other, [], 0⟩ _ hok2 (Nat.zero_le _) | exact refPut_any _ ⟨x.at_, 3, x.other, froms x.back, 0⟩ _ hok2 (froms_ok hx0.2.2)) ?_
              refine br (fun hc94 => ?y94) (fun hc94 => ?n94)
              case' y94 =>
               exfalso; omega
              case' n94 =>
               have hnkind_10 := hc94
               refine br (fun hc95 => ?y95) (fun hc95 => ?n95)
               case' y95 =>
                have hbad := hc95
               case' n95 =>
                have hgood := hc95
            case' n86 =>
             have hnkind_9 := hc86
             refine br (fun hc96 => ?y96) (fun hc96 => ?n96)
             case' y96 =>
              have hkkind_10 := hc96
              first | refine x_ix (by first | exact mapAt hp | exact fieldAt_ix hn | exact was_0 hW (by omega) | exact was_1 hW (by omega) | exact co6_0 (by omega) | exact co6_1 (by omega) | exact co_at (by omega) | exact co_0 (by omega)) ?_ | refine x_ixI (by first | exact mapAt hp | exact fieldAt_ix hn | exact was_0 hW (by omega) | exact was_1 hW (by omega) | exact co6_0 (by omega) | exact co6_1 (by omega) | exact co_at (by omega) | exact co_0 (by omega)) ?_
              refine And.intro ⟨T.mixed, by decide +kernel⟩ ?_
              first | refine x_ix (by first | exact mapAt hp | exact fieldAt_ix hn | exact was_0 hW (by omega) | exact was_1 hW (by omega) | exact co6_0 (by omega) | exact co6_1 (by omega) | exact co_at (by omega) | exact co_0 (by omega)) ?_ | refine x_ixI (by first | exact mapAt hp | exact fieldAt_ix hn | exact was_0 hW (by omega) | exact was_1 hW (by omega) | exact co6_0 (by omega) | exact co6_1 (by omega) | exact co_at (by omega) | exact co_0 (by omega)) ?_
              refine x_call T.en_114 (by first | exact refPut_any _ _ _ hok2 (was_ok ho hall (by omega)) | exact refPut_any _ x.field _ hok2 hx0.1 | exact refPut_any _ ⟨named x.at_ x.name, 1, noB, [], (at0 (wasL l x)).worth⟩ _ hok2 (Nat.zero_le _) | exact refPut_any _ ⟨named x.at_ x.other, 1, noB, [], (at0 (wasL l x)).worth * x.factor⟩ _ (okL_put hok2 (Nat.zero_le _)) (Nat.zero_le _) | exact refPut_any _ ⟨x.at_, 4, noB, [], 0⟩ _ hok2 (Nat.zero_le _) | exact refPut_any _ ⟨x.at_, 1, noB, [], (at0 (wasL l x)).worth⟩ _ hok2 (Nat.zero_le _) | exact refPut_any _ ⟨x.at_, 2, x.other, [], 0⟩ _ hok2 (Nat.zero_le _) | exact refPut_any _ ⟨x.at_, 3, x.other, froms x.back, 0⟩ _ hok2 (froms_ok hx0.2.2)) ?_
              refine br (fun hc97 => ?y97) (fun hc97 => ?n97)
              case' y97 =>
               have hbad := hc97
              case' n97 =>
               have hgood := hc97
             case' n96 =>
              have hnkind_10 := hc96
              refine brF ?_
 all_goals (refine x_ret ?_; simp only [fitsL, fits, C.asD, and_true] <;> (first | (rw [app_5 h5]; exact ⟨rfl, rfl⟩) | (rw [refApp_gone hl hx hp hgone]; exact ⟨rfl, rfl⟩) | (exfalso; have hrk := right_kind hx; omega) | (clear hW hRe hok2 hall hpe hal hR hA hok hAl hk; generalize at0 (wasL l x) = w at *; generalize at1 (wasL l x) = v at *; generalize s.2.2.2 = R at *; first | (refine app_16 (m := []) hgo ?_; clear hgo; unfold refA; simp_all; done) | (refine app_0 hgo ?_ ?_ <;> (clear hgo; unfold refA; simp_all; done)))))
end Go.Vm
end
section
namespace Go.Vm
open Go.RowKit
set_option linter.unusedVariables false
set_option linter.unusedSimpArgs false

structure TagD where
  r : Int
  n : Int
  deriving DecidableEq
def noTag : TagD := ⟨0, 0⟩
structure EdgeD where
  id : TagD
  parent : TagD
  lens : LensD
  deriving DecidableEq
structure NodeD where
  edge : EdgeD
  state : Int
  schema : List FieldD
  depth : Int
  deriving DecidableEq
def tD (t : TagD) : D := .agg [.sc (.int .i64 t.r), .sc (.int .i64 t.n)]
def lensC (x : LensD) : List D := [.sc (.int .i64 x.kind), .sc (.int .i64 x.at_.scope), .sc (.string x.at_.group), .sc (.string x.at_.name), .sc (.string x.name), .sc (.string x.other), .sc (.int .i64 x.factor),
  .sc (.int .i64 x.field.at_.scope), .sc (.string x.field.at_.group), .sc (.string x.field.at_.name), .sc (.int .i64 x.field.kind), .sc (.string x.field.deft), .row (x.field.cases.map strD), .sc (.int .i64 x.field.worth), .row (x.forth.map pairD), .row (x.back.map pairD)]
def edgeC (e : EdgeD) : List D := .sc (.int .i64 e.id.r) :: .sc (.int .i64 e.id.n) :: .sc (.int .i64 e.parent.r) :: .sc (.int .i64 e.parent.n) :: lensC e.lens
def eD (e : EdgeD) : D := .agg (edgeC e)
def nodeC (n : NodeD) : List D := .sc (.int .i64 n.edge.id.r) :: .sc (.int .i64 n.edge.id.n) :: .sc (.int .i64 n.edge.parent.r) :: .sc (.int .i64 n.edge.parent.n) :: 
  [.sc (.int .i64 n.edge.lens.kind), .sc (.int .i64 n.edge.lens.at_.scope), .sc (.string n.edge.lens.at_.group), .sc (.string n.edge.lens.at_.name), .sc (.string n.edge.lens.name), .sc (.string n.edge.lens.other), .sc (.int .i64 n.edge.lens.factor),
  .sc (.int .i64 n.edge.lens.field.at_.scope), .sc (.string n.edge.lens.field.at_.group), .sc (.string n.edge.lens.field.at_.name), .sc (.int .i64 n.edge.lens.field.kind), .sc (.string n.edge.lens.field.deft), .row (n.edge.lens.field.cases.map strD), .sc (.int .i64 n.edge.lens.field.worth), .row (n.edge.lens.forth.map pairD), .row (n.edge.lens.back.map pairD),
  .sc (.int .i64 n.state), .row (n.schema.map fD), .sc (.int .i64 n.depth)]
def nD (n : NodeD) : D := .agg (nodeC n)
theorem lD_cells (x : LensD) : lD x = .agg (lensC x) := rfl
def noEdge : EdgeD := ⟨noTag, noTag, noLens⟩
def noNode : NodeD := ⟨noEdge, 0, [], 0⟩

theorem tD_inj {a b : TagD} (h : tD a = tD b) : a = b := by
  obtain ⟨a1, a2⟩ := a
  obtain ⟨b1, b2⟩ := b
  simp [tD] at h
  simp [h]
theorem fst_map {α β : Type} {f : α → D} {g : β → D} {l : List (α × β)} : ∀ p ∈ l.map (fun p => (f p.1, g p.2)), ∃ t, p.1 = f t := by
  intro p hp
  obtain ⟨q, _, rfl⟩ := List.mem_map.1 hp
  exact ⟨q.1, rfl⟩

/-- A list of pairs, as a map. -/
def findT {β : Type} (k : TagD) : List (TagD × β) → Option β
  | [] => none
  | p :: l => if k = p.1 then some p.2 else findT k l
def putT {β : Type} (k : TagD) (v : β) : List (TagD × β) → List (TagD × β)
  | [] => [(k, v)]
  | p :: l => if k = p.1 then (k, v) :: l else p :: putT k v l
theorem findT_map {β : Type} {g : β → D} (k : TagD) : ∀ (l : List (TagD × β)) (i : Nat), (findD (tD k) (l.map fun p => (tD p.1, g p.2)) i).map (·.2) = (findT k l).map g
  | [], _ => rfl
  | p :: l, i => by
    simp only [List.map_cons, findD, findT]
    by_cases e : k = p.1
    · rw [if_pos e, if_pos (by rw [e])]; rfl
    · rw [if_neg e, if_neg (fun h => e (tD_inj h))]; exact findT_map k l (i + 1)
theorem findT_some {β : Type} {g : β → D} (k : TagD) : ∀ (l : List (TagD × β)) (i : Nat), (findD (tD k) (l.map fun p => (tD p.1, g p.2)) i).isSome = (findT k l).isSome := by
  intro l i
  have := findT_map (g := g) k l i
  cases h1 : findD (tD k) (l.map fun p => (tD p.1, g p.2)) i <;> cases h2 : findT k l <;> simp [h1, h2] at this ⊢
theorem putT_map {β : Type} {g : β → D} (k : TagD) (v : β) : ∀ (l : List (TagD × β)), putD (tD k) (g v) (l.map fun p => (tD p.1, g p.2)) = (putT k v l).map fun p => (tD p.1, g p.2)
  | [] => rfl
  | p :: l => by
    simp only [List.map_cons, putD, putT]
    by_cases e : k = p.1
    · rw [if_pos e, if_pos (by rw [e])]; rfl
    · rw [if_neg e, if_neg (fun h => e (tD_inj h)), List.map_cons, putT_map k v l]

/-! ### What the chapter says -/
def tagB (t : TagD) : Bool := decide (1 ≤ t.r) && decide (t.r ≤ 6) && decide (1 ≤ t.n) && decide (t.n ≤ 1099511627776)
def lessT (a b : TagD) : Bool := if a.r = b.r then decide (a.n < b.n) else decide (a.r < b.r)
def edgeB (e : EdgeD) : Bool := tagB e.id && (decide (e.parent = noTag) || (tagB e.parent && !decide (e.parent = e.id))) && (decide (1 ≤ e.lens.kind) && decide (e.lens.kind ≤ 8) && rightL e.lens)
def okE (e : EdgeD) : Prop := okX e.lens
/-- The schema at the root. -/
def rootS : List FieldD := [⟨⟨0, noB, ⟨#[99, 111, 117, 112, 111, 110]⟩⟩, 2, noB, [], 0⟩, ⟨⟨1, noB, ⟨#[110, 111, 116, 101]⟩⟩, 2, noB, [], 0⟩, ⟨⟨1, noB, ⟨#[113, 116, 121]⟩⟩, 1, noB, [], 1⟩, ⟨⟨1, noB, ⟨#[115, 105, 122, 101]⟩⟩, 3, ⟨#[109, 101, 100, 105, 117, 109]⟩, [⟨#[115, 109, 97, 108, 108]⟩, ⟨#[109, 101, 100, 105, 117, 109]⟩, ⟨#[108, 97, 114, 103, 101]⟩], 0⟩, ⟨⟨1, noB, ⟨#[116, 97, 103, 115]⟩⟩, 4, noB, [], 0⟩]
/-- A tag's edge. -/
def edgeOf (E : List EdgeD) (id : TagD) : Option EdgeD := E.find? fun e => decide (e.id = id)
/-- What comes of a tag whose parent came to r. -/
def stepC (r : Int × List FieldD × Int) (x : LensD) : Int × List FieldD × Int :=
  if r.1 = 2 then (if (applyS r.2.1 x).2 = 0 then (2, (applyS r.2.1 x).1, r.2.2 + 1) else (3, [], 0)) else if r.1 = 3 then (3, [], 0) else (1, [], 0)
/-- What comes of a tag: its state, its schema, how deep it is. -/
def comes : Nat → List EdgeD → TagD → Int × List FieldD × Int
  | 0, _, _ => (1, [], 0)
  | n + 1, E, id => if id = noTag then (2, rootS, 0) else match edgeOf E id with
    | none => (0, [], 0)
    | some e => stepC (comes n E e.parent) e.lens
def pend (e : EdgeD) : NodeD := ⟨e, 1, [], 0⟩
def nodeOf (E : List EdgeD) (e : EdgeD) : NodeD := let r := comes (E.length + 1) E e.id; ⟨e, r.1, r.2.1, r.2.2⟩
def atT (l : List (TagD × NodeD)) (id : TagD) : NodeD := if id = noTag then ⟨noEdge, 2, rootS, 0⟩ else (findT id l).getD noNode
def nodesOf (E : List EdgeD) : List (TagD × NodeD) := E.map fun e => (e.id, nodeOf E e)
/-- The cells of a map from tags to nodes. -/
def ents (l : List (TagD × NodeD)) : List (D × D) := l.map fun p => (tD p.1, nD p.2)
theorem look_node (l : List (TagD × NodeD)) (k : TagD) : ((findD (tD k) (ents l) 0).map (·.2)).getD (nD noNode) = nD ((findT k l).getD noNode) := by
  unfold ents
  rw [findT_map (g := nD)]
  cases findT k l <;> rfl
theorem look_found (l : List (TagD × NodeD)) (k : TagD) : (findD (tD k) (ents l) 0).isSome = (findT k l).isSome := findT_some (g := nD) k l 0
theorem ents_keys (l : List (TagD × NodeD)) : ∀ p ∈ ents l, ∃ t : TagD, p.1 = tD t := fst_map
theorem ents_len (l : List (TagD × NodeD)) : (ents l).length = l.length := by simp [ents]
theorem ents_put (l : List (TagD × NodeD)) (k : TagD) (n : NodeD) : putD (tD k) (nD n) (ents l) = ents (putT k n l) := putT_map (g := nD) k n l
theorem at_root {l : List (TagD × NodeD)} {id : TagD} (h : id = noTag) : atT l id = ⟨noEdge, 2, rootS, 0⟩ := if_pos h
theorem at_other {l : List (TagD × NodeD)} {id : TagD} (h : ¬ id = noTag) : atT l id = (findT id l).getD noNode := if_neg h
end Go.Vm
end
section
namespace Go.Vm
open Go.RowKit Go.Proofs
set_option linter.unusedVariables false
set_option linter.unusedSimpArgs false
-- what is heavy, and how big numbers are
def okIR (r : RefD) : Prop := inI64 r.scope
def okIF (x : FieldD) : Prop := okIR x.at_ ∧ inI64 x.kind ∧ inI64 x.worth
def okIL (x : LensD) : Prop := inI64 x.kind ∧ okIR x.at_ ∧ inI64 x.factor ∧ okIF x.field
theorem heavyP_each {l : List (ByteArray × ByteArray)} (h : heavyP l = false) : l.length ≤ 20 ∧ ∀ t ∈ l, t.1.size ≤ 200 ∧ t.2.size ≤ 200 := by
  unfold heavyP at h
  simp only [Bool.or_eq_false_iff, decide_eq_false_iff_not, List.any_eq_false, Bool.or_eq_true, decide_eq_true_eq, not_or] at h
  exact ⟨by omega, fun t ht => by have := h.2 t ht; omega⟩
theorem heavyF_okF {x : FieldD} (h : heavyF x = false) (hi : okIF x) : OkF x := by
  unfold heavyF at h
  simp only [Bool.or_eq_false_iff, decide_eq_false_iff_not, List.any_eq_false, decide_eq_true_eq] at h
  exact ⟨hi.1, by omega, by omega, hi.2.1, by omega, by omega, fun t ht => by have := h.2 t ht; omega, hi.2.2⟩
theorem heavyL_okB {x : LensD} (h : heavyL x = false) (hi : okIL x) : OkB x := by
  unfold heavyL at h
  simp only [Bool.or_eq_false_iff, decide_eq_false_iff_not] at h
  have a := heavyP_each h.1.2
  have b := heavyP_each h.2
  exact ⟨hi.1, hi.2.1, by omega, by omega, by omega, by omega, hi.2.2.1, heavyF_okF h.1.1.2 hi.2.2.2, a.1, a.2, b.1, b.2⟩
theorem textsP_wrong {f : Int} (hf : ¬ fmtF f) (l : List ByteArray) : textsP f l = [] := by
  unfold textsP; rw [List.flatMap_eq_nil_iff]; intro t _; exact textP_wrong hf t
theorem pairsP_wrong {f : Int} (hf : ¬ fmtF f) (l : List (ByteArray × ByteArray)) : pairsP f l = [] := by
  unfold pairsP pairsB; rw [putN_wrong hf, List.nil_append, List.flatMap_eq_nil_iff]; intro t _; unfold pairP; rw [textP_wrong hf, textP_wrong hf]; rfl
theorem refP_wrong {f : Int} (hf : ¬ fmtF f) (r : RefD) : refP f r = [] := by
  unfold refP; rw [putN_wrong hf, textP_wrong hf, textP_wrong hf]; rfl
theorem fieldP_wrong {f : Int} (hf : ¬ fmtF f) (x : FieldD) : fieldP f x = [] := by
  unfold fieldP; rw [refP_wrong hf, putN_wrong hf, textP_wrong hf, putN_wrong hf, textsP_wrong hf, putN_wrong hf]; rfl
theorem lensP_wrong {f : Int} (hf : ¬ fmtF f) (x : LensD) : lensP f x = [] := by
  unfold lensP; rw [putN_wrong hf, refP_wrong hf, textP_wrong hf, textP_wrong hf, putN_wrong hf, pairsP_wrong hf, pairsP_wrong hf, fieldP_wrong hf]; simp
theorem lensR_badS {b : List UInt8} {f : Int} {s : St} (h : badR f s = true) : (lensR b f s).1 = noLens ∧ badR f (lensR b f s).2 = true := lensR_bad1 (numR_badS h).2
theorem rightL_okX {x : LensD} (h : OkB x) : okX x := ⟨by have := h.field.cases; omega, by have := h.forth; omega, by have := h.back; omega⟩
-- what the program gets, and what the document gets
theorem lens_both {b : List UInt8} {f : Int} (hf : fmtF f) : (lensR b f (0, false)).1 = oL (lensO b 0 f) ∧ badR f (lensR b f (0, false)).2 = !(lensO b 0 f).isSome ∧ ((lensO b 0 f).isSome = true → leftR b f (lensR b f (0, false)).2 = (b.length : Int) - tE (lensO b 0 f)) := by
  have h := lensR_get (b := b) hf (a := 0) (Nat.zero_le _)
  cases e : lensO b 0 f with
  | none => rw [e] at h; simp only at h; exact ⟨h.1, by rw [h.2]; rfl, fun k => by cases k⟩
  | some x =>
    rw [e] at h; simp only at h; rw [h]
    have hb : badR f (x.2, false) = false := by simpa using badR_right hf (a := x.2)
    refine ⟨rfl, hb, fun _ => ?_⟩
    unfold leftR; rw [hb]; rfl
theorem lens_round {f : Int} {x : LensD} (hf : fmtF f) (h : rightL x = true) : lensR (lensP f x) f (0, false) = (x, ((lensP f x).length, false)) := by
  have h1 := lens_put hf (pre := []) (post := []) h
  have h2 := lensR_get (b := lensP f x) hf (a := 0) (Nat.zero_le _)
  simp only [List.nil_append, List.append_nil, List.length_nil, Nat.zero_add] at h1
  rw [h1] at h2
  exact h2
theorem byD_tl {a : UInt8} {l : List UInt8} : ((byD ([a] ++ l)).take (byD ([a] ++ l)).length).drop 1 = byD l := by rw [List.take_length]; rfl
def bodyH (n : Nat) (g : List UInt8 → St) (h : Hp) (f : Int) (p b : List UInt8) (k : Nat) : Hp := fun u => if n ≤ u ∧ u < n + k then rdS (if u = n then p else b) f (g (if u = n then p else b)) else h u
theorem body_zero {n : Nat} {g : List UInt8 → St} {h : Hp} {f : Int} {p b : List UInt8} : bodyH n g h f p b 0 = h := by funext u; unfold bodyH; rw [if_neg (by omega)]
theorem body_free {n : Nat} {g : List UInt8 → St} {h : Hp} {f : Int} {p b : List UInt8} {k : Nat} (hf : h (n + k) = .free) : bodyH n g h f p b k (n + k) = .free := by unfold bodyH; rw [if_neg (by omega)]; exact hf
theorem body_next {n : Nat} {g : List UInt8 → St} {h : Hp} {f : Int} {p b r : List UInt8} {k : Nat} {x : S} (hr : (if k = 0 then p else b) = r) : hpost (hpost (bodyH n g h f p b k) [(n + k, x)]) [(n + k, rdS r f (g r))] = bodyH n g h f p b (k + 1) := by
  funext u
  simp only [hpost, hset]
  by_cases e : u = n + k
  · subst e
    simp only [if_true]
    unfold bodyH
    rw [if_pos (by omega)]
    have : (if n + k = n then p else b) = r := by rw [← hr]; by_cases h0 : k = 0 <;> simp [h0]
    rw [this]
  · simp only [if_neg e]
    unfold bodyH
    by_cases e1 : n ≤ u ∧ u < n + k
    · rw [if_pos e1, if_pos (show n ≤ u ∧ u < n + (k + 1) by omega)]
    · rw [if_neg e1, if_neg (show ¬ (n ≤ u ∧ u < n + (k + 1)) by omega)]
theorem row2_at {p b r : List UInt8} {k : Nat} (hr : (if k = 0 then p else b) = r) (hk : k < 2) : [D.row (byD p), D.row (byD b)][((k : Nat) : Int).toNat]? = some (.row (byD r)) := by
  rcases (by omega : k = 0 ∨ k = 1) with rfl | rfl
  · subst hr; rfl
  · subst hr; rfl
theorem end_zero {f : Int} {l : List UInt8} (hf : fmtF f) : (if badR f (l.length, false) = true ∨ 0 < leftR l f (l.length, false) then (8 : Int) else 0) = 0 := by
  have h1 : ¬ badR f (l.length, false) = true := badR_right hf
  rw [if_neg]
  rintro (h | h)
  · exact h1 h
  · unfold leftR at h; rw [if_neg h1] at h; simp only at h; omega
theorem noLens_ok : okX noLens := ⟨by decide, by decide, by decide⟩
theorem lensR_okX {b : List UInt8} {f : Int} {s : St} : okX (lensR b f s).1 := by
  unfold lensR
  split
  · exact noLens_ok
  · split
    · exact noLens_ok
    · exact lensV_ok
end Go.Vm
end
section
namespace Go.Vm
set_option linter.unusedVariables false
set_option linter.unusedSimpArgs false

abbrev Came := Int × List FieldD × Int
def doneB (r : Came) : Bool := decide (r.1 = 2) || decide (r.1 = 3)
theorem step_done {r : Came} {x : LensD} (h : doneB (stepC r x) = true) : doneB r = true := by
  unfold stepC at h
  split at h
  · rename_i h2; simp [doneB, h2]
  · split at h
    · rename_i h3; simp [doneB, h3]
    · simp [doneB] at h
theorem step_of_done {r : Came} {x : LensD} (h : doneB r = true) : doneB (stepC r x) = true := by
  unfold stepC
  simp only [doneB, Bool.or_eq_true, decide_eq_true_eq] at h
  split
  · split <;> simp [doneB]
  · rename_i h2
    rw [if_pos (h.resolve_left h2)]; simp [doneB]
theorem comes_succ {n : Nat} {E : List EdgeD} {id : TagD} {e : EdgeD} (h0 : ¬ id = noTag) (he : edgeOf E id = some e) : comes (n + 1) E id = stepC (comes n E e.parent) e.lens := by
  simp only [comes, if_neg h0, he]
theorem comes_none {n : Nat} {E : List EdgeD} {id : TagD} (h0 : ¬ id = noTag) (he : edgeOf E id = none) : comes (n + 1) E id = (0, [], 0) := by
  simp only [comes, if_neg h0, he]
theorem comes_root {n : Nat} {E : List EdgeD} : comes (n + 1) E noTag = (2, rootS, 0) := by simp [comes]
theorem comes_mono {E : List EdgeD} : ∀ {n : Nat} {id : TagD}, doneB (comes n E id) = true → comes (n + 1) E id = comes n E id
  | 0, id, h => by simp [comes, doneB] at h
  | n + 1, id, h => by
    by_cases h0 : id = noTag
    · subst h0; rw [comes_root, comes_root]
    · cases he : edgeOf E id with
      | none => rw [comes_none h0 he, comes_none h0 he]
      | some e =>
        rw [comes_succ h0 he, comes_succ (n := n) h0 he]
        rw [comes_succ h0 he] at h
        rw [comes_mono (step_done h)]
theorem comes_more {E : List EdgeD} {n : Nat} {id : TagD} (h : doneB (comes n E id) = true) : ∀ k, comes (n + k) E id = comes n E id
  | 0 => rfl
  | k + 1 => by
    have := comes_more h k
    rw [← Nat.add_assoc, comes_mono (by rw [this]; exact h), this]
def cnt (E : List EdgeD) (n : Nat) : Nat := E.countP fun e => doneB (comes n E e.id)
theorem countP_imp {α : Type} {p q : α → Bool} : ∀ {l : List α}, (∀ a ∈ l, p a = true → q a = true) → l.countP p = l.countP q → ∀ a ∈ l, q a = true → p a = true
  | [], _, _, a, ha, _ => by cases ha
  | b :: l, hi, hc, a, ha, hq => by
    have hle : l.countP p ≤ l.countP q := List.countP_mono_left fun a ha => hi a (List.mem_cons_of_mem _ ha)
    have hb := hi b (List.mem_cons_self ..)
    simp only [List.countP_cons] at hc
    rcases List.mem_cons.1 ha with rfl | ha
    · cases hp : p a with
      | true => rfl
      | false => rw [hp, hq] at hc; simp at hc; omega
    · refine countP_imp (fun a ha => hi a (List.mem_cons_of_mem _ ha)) ?_ a ha hq
      cases hp : p b with
      | true => rw [hp, hb hp] at hc; simpa using hc
      | false =>
        cases hq2 : q b with
        | true => rw [hp, hq2] at hc; simp at hc; omega
        | false => rw [hp, hq2] at hc; simpa using hc
theorem edge_mem {E : List EdgeD} {id : TagD} {e : EdgeD} (h : edgeOf E id = some e) : e ∈ E ∧ e.id = id := by
  unfold edgeOf at h
  exact ⟨List.mem_of_find?_eq_some h, by simpa using List.find?_some h⟩
/-- Once a round brings nothing new, no later one does. -/
theorem cnt_still {E : List EdgeD} {n : Nat} (h : cnt E (n + 2) = cnt E (n + 1)) : ∀ k id, doneB (comes (n + 1 + k) E id) = true → doneB (comes (n + 1) E id) = true := by
  have hstep : ∀ id, doneB (comes (n + 2) E id) = true → doneB (comes (n + 1) E id) = true := by
    intro id hd
    by_cases h0 : id = noTag
    · subst h0; rw [comes_root]; rfl
    · cases he : edgeOf E id with
      | none => rw [comes_none h0 he] at hd; simp [doneB] at hd
      | some e =>
        obtain ⟨hm, rfl⟩ := edge_mem he
        exact countP_imp (p := fun e : EdgeD => doneB (comes (n + 1) E e.id)) (q := fun e : EdgeD => doneB (comes (n + 2) E e.id)) (fun a _ ha => by rw [comes_mono ha]; exact ha) h.symm e hm hd
  intro k
  induction k with
  | zero => intro id h; exact h
  | succ k ih =>
    intro id hd
    by_cases h0 : id = noTag
    · subst h0; rw [comes_root]; rfl
    · cases he : edgeOf E id with
      | none => rw [show n + 1 + (k + 1) = (n + 1 + k) + 1 by omega, comes_none h0 he] at hd; simp [doneB] at hd
      | some e =>
        rw [show n + 1 + (k + 1) = (n + 1 + k) + 1 by omega, comes_succ h0 he] at hd
        have := ih e.parent (step_done hd)
        refine hstep id ?_
        rw [comes_succ h0 he]
        exact step_of_done this
theorem cnt_le (E : List EdgeD) (n : Nat) : cnt E n ≤ E.length := List.countP_le_length
theorem cnt_mono (E : List EdgeD) (n : Nat) : cnt E n ≤ cnt E (n + 1) := List.countP_mono_left fun e _ h => by rw [comes_mono h]; exact h
/-- What comes of a tag at all comes within as many rounds as there are edges, and one. -/
theorem comes_full {E : List EdgeD} {k : Nat} {id : TagD} (h : doneB (comes k E id) = true) : comes (E.length + 1) E id = comes k E id := by
  have key : ∃ n, n ≤ E.length ∧ cnt E (n + 2) = cnt E (n + 1) := by
    apply Classical.byContradiction
    intro hno
    have grow : ∀ n, n ≤ E.length + 1 → n ≤ cnt E (n + 1) := by
      intro n
      induction n with
      | zero => intro _; exact Nat.zero_le _
      | succ n ih =>
        intro hn
        have h1 := ih (by omega)
        have h2 := cnt_mono E (n + 1)
        have h3 : cnt E (n + 2) ≠ cnt E (n + 1) := fun e => hno ⟨n, by omega, e⟩
        show n + 1 ≤ cnt E (n + 2)
        have h4 : cnt E (n + 1) ≤ cnt E (n + 2) := h2
        omega
    have := grow (E.length + 1) (Nat.le_refl _)
    have := cnt_le E (E.length + 1 + 1)
    omega
  obtain ⟨n, hn, hc⟩ := key
  have hst := cnt_still hc
  rcases Nat.le_total k (n + 1) with hk | hk
  · have e1 := comes_more h (E.length + 1 - k)
    rwa [show k + (E.length + 1 - k) = E.length + 1 by omega] at e1
  · have h1 := hst (k - (n + 1)) id (by rw [show n + 1 + (k - (n + 1)) = k by omega]; exact h)
    have e1 := comes_more h1 (k - (n + 1))
    have e2 := comes_more h1 (E.length + 1 - (n + 1))
    rw [show n + 1 + (k - (n + 1)) = k by omega] at e1
    rw [show n + 1 + (E.length + 1 - (n + 1)) = E.length + 1 by omega] at e2
    rw [e1, e2]
/-- What comes of a tag. -/
def cameOf (E : List EdgeD) (id : TagD) : Came := comes (E.length + 1) E id
theorem came_step {E : List EdgeD} {id : TagD} {e : EdgeD} (h0 : ¬ id = noTag) (he : edgeOf E id = some e) : cameOf E id = stepC (cameOf E e.parent) e.lens := by
  unfold cameOf
  cases hd : doneB (comes (E.length + 1) E e.parent) with
  | true =>
    have : doneB (comes (E.length + 2) E id) = true := by rw [comes_succ h0 he]; exact step_of_done hd
    rw [comes_full this, comes_succ h0 he]
  | false =>
    rw [comes_succ h0 he]
    have h1 : doneB (comes E.length E e.parent) = false := by
      cases h2 : doneB (comes E.length E e.parent) with
      | false => rfl
      | true => rw [comes_mono h2] at hd; rw [hd] at h2; cases h2
    have nd : ∀ r : Came, doneB r = false → stepC r e.lens = (1, [], 0) := by
      intro r hr
      simp only [doneB, Bool.or_eq_false_iff, decide_eq_false_iff_not] at hr
      unfold stepC
      rw [if_neg hr.1, if_neg hr.2]
    rw [nd _ h1, nd _ hd]
theorem came_root {E : List EdgeD} : cameOf E noTag = (2, rootS, 0) := comes_root
theorem came_none {E : List EdgeD} {id : TagD} (h0 : ¬ id = noTag) (he : edgeOf E id = none) : cameOf E id = (0, [], 0) := comes_none h0 he

/-! ### Entries that are settled by and by -/
/-- Edges whose tags are unlike, and none the root's; their lenses can be gone through. -/
structure Good (E : List EdgeD) : Prop where
  ok : ∀ e ∈ E, okX e.lens
  tag : ∀ e ∈ E, ¬ e.id = noTag
  uniq : E.Pairwise fun a b => ¬ a.id = b.id
theorem edge_of_mem {E : List EdgeD} : E.Pairwise (fun a b => ¬ a.id = b.id) → ∀ {e : EdgeD}, e ∈ E → edgeOf E e.id = some e
  | .nil, e, h => by cases h
  | .cons (a := a) (l := l) h1 h2, e, h => by
    unfold edgeOf
    rcases List.mem_cons.1 h with rfl | h
    · simp
    · rw [List.find?_cons_of_neg (by simpa using h1 e h)]
      exact edge_of_mem h2 h
/-- Each entry is an edge's, and settled or not yet. -/
structure Half (E : List EdgeD) (l : List (TagD × NodeD)) : Prop where
  edges : l.map (fun p => p.2.edge) = E
  each : ∀ p ∈ l, p.1 = p.2.edge.id ∧ (p.2 = nodeOf E p.2.edge ∨ p.2 = pend p.2.edge)
theorem findT_mem {β : Type} {k : TagD} : ∀ {l : List (TagD × β)} {n : β}, findT k l = some n → (k, n) ∈ l
  | [], n, h => by cases h
  | p :: l, n, h => by
    unfold findT at h
    split at h
    · rename_i e; injection h with h; subst h e; exact List.mem_cons_self ..
    · exact List.mem_cons_of_mem _ (findT_mem h)
theorem edge_find {l : List (TagD × NodeD)} {k : TagD} : (∀ p ∈ l, p.1 = p.2.edge.id) → edgeOf (l.map fun p => p.2.edge) k = (findT k l).map (·.edge) := by
  induction l with
  | nil => intro _; rfl
  | cons p l ih =>
    intro h
    have hp := h p (List.mem_cons_self ..)
    unfold edgeOf findT
    simp only [List.map_cons]
    by_cases e : k = p.1
    · rw [if_pos e, List.find?_cons_of_pos (by simp [e, hp])]; rfl
    · rw [if_neg e, List.find?_cons_of_neg (by simp only [decide_eq_true_eq]; intro e2; exact e (by rw [hp, e2]))]
      exact ih fun q hq => h q (List.mem_cons_of_mem _ hq)
theorem Half.edge {E : List EdgeD} {l : List (TagD × NodeD)} (h : Half E l) (k : TagD) : edgeOf E k = (findT k l).map (·.edge) := by
  have := edge_find (k := k) fun p hp => (h.each p hp).1
  rwa [h.edges] at this
theorem node_came {E : List EdgeD} {e : EdgeD} : (nodeOf E e).state = (cameOf E e.id).1 ∧ (nodeOf E e).schema = (cameOf E e.id).2.1 ∧ (nodeOf E e).depth = (cameOf E e.id).2.2 ∧ (nodeOf E e).edge = e := ⟨rfl, rfl, rfl, rfl⟩
/-- What is known of a settled tag is what comes of it. -/
theorem Half.at {E : List EdgeD} {l : List (TagD × NodeD)} (h : Half E l) {id : TagD} (hs : (atT l id).state = 2 ∨ (atT l id).state = 3) : (atT l id).state = (cameOf E id).1 ∧ (atT l id).schema = (cameOf E id).2.1 ∧ (atT l id).depth = (cameOf E id).2.2 := by
  by_cases h0 : id = noTag
  · subst h0; rw [at_root rfl, came_root]; exact ⟨rfl, rfl, rfl⟩
  · rw [at_other h0] at hs ⊢
    cases hf : findT id l with
    | none => rw [hf] at hs; simp [noNode] at hs
    | some n =>
      rw [hf] at hs
      simp only [Option.getD_some] at hs ⊢
      obtain ⟨h1, h2⟩ := h.each _ (findT_mem hf)
      simp only at h1 h2
      rcases h2 with h2 | h2
      · rw [h2, h1]; exact ⟨rfl, rfl, rfl⟩
      · rw [h2] at hs; simp [pend] at hs
theorem came_undone {E : List EdgeD} {e : EdgeD} (hg : Good E) (he : e ∈ E) (h : doneB (cameOf E e.id) = false) : cameOf E e.id = (1, [], 0) := by
  rw [came_step (hg.tag e he) (edge_of_mem hg.uniq he)] at h ⊢
  cases hd : doneB (cameOf E e.parent) with
  | true => rw [step_of_done hd] at h; cases h
  | false =>
    simp only [doneB, Bool.or_eq_false_iff, decide_eq_false_iff_not] at hd
    unfold stepC
    rw [if_neg hd.1, if_neg hd.2]
theorem node_pend {E : List EdgeD} {e : EdgeD} (hg : Good E) (he : e ∈ E) (h : doneB (cameOf E e.id) = false) : nodeOf E e = pend e := by
  have := came_undone hg he h
  unfold nodeOf pend
  show NodeD.mk e (cameOf E e.id).1 (cameOf E e.id).2.1 (cameOf E e.id).2.2 = _
  rw [this]
/-- An entry that is pending as yet. -/
theorem Half.pend {E : List EdgeD} {l : List (TagD × NodeD)} (hg : Good E) (h : Half E l) {p : TagD × NodeD} (hp : p ∈ l) (hs : p.2.state = 1) : p.2 = Vm.pend p.2.edge ∧ p.1 = p.2.edge.id ∧ p.2.edge ∈ E := by
  obtain ⟨h1, h2⟩ := h.each p hp
  have hm : p.2.edge ∈ E := by rw [← h.edges]; exact List.mem_map.2 ⟨p, hp, rfl⟩
  refine ⟨?_, h1, hm⟩
  rcases h2 with h2 | h2
  · rw [h2] at hs
    have : doneB (cameOf E p.2.edge.id) = false := by
      have hs : (cameOf E p.2.edge.id).1 = 1 := hs
      simp [doneB, hs]
    rw [h2]; exact node_pend hg hm this
  · exact h2
/-- Its parent is settled by now: so is it. -/
theorem node_next {E : List EdgeD} {e : EdgeD} (hg : Good E) (he : e ∈ E) : nodeOf E e = ⟨e, (stepC (cameOf E e.parent) e.lens).1, (stepC (cameOf E e.parent) e.lens).2.1, (stepC (cameOf E e.parent) e.lens).2.2⟩ := by
  rw [← came_step (hg.tag e he) (edge_of_mem hg.uniq he)]; rfl
theorem put_at {β : Type} {k : TagD} {v : β} : ∀ {l : List (TagD × β)} {i : Nat} {q : TagD × β}, l[i]? = some q → q.1 = k → (∀ j p, j < i → l[j]? = some p → ¬ p.1 = k) → putT k v l = l.set i (k, v)
  | [], i, q, h, _, _ => by simp at h
  | p :: l, 0, q, h, hk, _ => by
    simp at h; subst h
    unfold putT; rw [if_pos hk.symm]; rfl
  | p :: l, i + 1, q, h, hk, hn => by
    unfold putT
    rw [if_neg (fun e => hn 0 p (Nat.succ_pos _) rfl e.symm)]
    rw [put_at (l := l) (i := i) (by simpa using h) hk (fun j p hj hp => hn (j + 1) p (by omega) (by simpa using hp))]
    rfl
theorem Half.uniq {E : List EdgeD} {l : List (TagD × NodeD)} (hg : Good E) (h : Half E l) {i j : Nat} {p q : TagD × NodeD} (hp : l[i]? = some p) (hq : l[j]? = some q) (hlt : i < j) : ¬ p.1 = q.1 := by
  have h1 : E[i]? = some p.2.edge := by rw [← h.edges, List.getElem?_map, hp]; rfl
  have h2 : E[j]? = some q.2.edge := by rw [← h.edges, List.getElem?_map, hq]; rfl
  obtain ⟨hi, e1⟩ := List.getElem?_eq_some_iff.1 h1
  obtain ⟨hj, e2⟩ := List.getElem?_eq_some_iff.1 h2
  have := (List.pairwise_iff_getElem.1 hg.uniq) i j hi hj hlt
  rw [e1, e2] at this
  rw [(h.each p (List.mem_of_getElem? hp)).1, (h.each q (List.mem_of_getElem? hq)).1]
  exact this
theorem set_self {α : Type} : ∀ {l : List α} {i : Nat} {x : α}, l[i]? = some x → l.set i x = l
  | [], i, x, h => by simp at h
  | y :: l, 0, x, h => by simp at h; subst h; rfl
  | y :: l, i + 1, x, h => by simp only [List.set_cons_succ]; rw [set_self (l := l) (by simpa using h)]
theorem Half.put {E : List EdgeD} {l : List (TagD × NodeD)} (hg : Good E) (h : Half E l) {i : Nat} {q : TagD × NodeD} (hq : l[i]? = some q) : putT q.1 (nodeOf E q.2.edge) l = l.set i (q.1, nodeOf E q.2.edge) ∧ Half E (putT q.1 (nodeOf E q.2.edge) l) := by
  have e := put_at (v := nodeOf E q.2.edge) hq rfl (fun j p hj hp => h.uniq hg hp hq hj)
  refine ⟨e, ?_⟩
  rw [e]
  have hi := (List.getElem?_eq_some_iff.1 hq).1
  constructor
  · rw [List.map_set, ← h.edges]
    show (l.map fun p => p.2.edge).set i q.2.edge = _
    exact set_self (by rw [List.getElem?_map, hq]; rfl)
  · intro p hp
    rcases List.mem_or_eq_of_mem_set hp with hp | rfl
    · exact h.each p hp
    · exact ⟨(h.each q (List.mem_of_getElem? hq)).1, .inl rfl⟩
/-- How many are pending. -/
def pends (l : List (TagD × NodeD)) : Nat := l.countP fun p => decide (p.2.state = 1)
theorem pends_put {l : List (TagD × NodeD)} {i : Nat} {q : TagD × NodeD} {n : NodeD} (hq : l[i]? = some q) (hs : q.2.state = 1) (hn : ¬ n.state = 1) : pends (l.set i (q.1, n)) < pends l := by
  have hi := (List.getElem?_eq_some_iff.1 hq).1
  have hqe := (List.getElem?_eq_some_iff.1 hq).2
  unfold pends
  rw [List.countP_set hi, hqe]
  have : 0 < l.countP fun p => decide (p.2.state = 1) := List.countP_pos_iff.2 ⟨q, List.mem_of_getElem? hq, by simpa using hs⟩
  simp [hs, hn]; omega
/-- Nothing is to be done at an entry. -/
def quiet (l : List (TagD × NodeD)) (i : Nat) : Prop := ∀ p, l[i]? = some p → ¬ p.2.state = 1 ∨ (¬ (atT l p.2.edge.parent).state = 2 ∧ ¬ (atT l p.2.edge.parent).state = 3)
/-- Once nothing is to be done, each entry is what comes of its edge. -/
theorem Half.over {E : List EdgeD} {l : List (TagD × NodeD)} (hg : Good E) (h : Half E l) (hq : ∀ i, i < l.length → quiet l i) : l = nodesOf E := by
  have key : ∀ n id nd, doneB (comes n E id) = true → ¬ id = noTag → findT id l = some nd → nd = nodeOf E nd.edge := by
    intro n
    induction n with
    | zero => intro id nd hd; simp [comes, doneB] at hd
    | succ n ih =>
      intro id nd hd h0 hf
      have hm := findT_mem hf
      obtain ⟨h1, h2⟩ := h.each _ hm
      simp only at h1 h2
      have he : edgeOf E id = some nd.edge := by rw [h.edge, hf]; rfl
      rcases h2 with h2 | h2
      · exact h2
      · exfalso
        rw [comes_succ h0 he] at hd
        have hd := step_done hd
        obtain ⟨i, hi⟩ := List.getElem?_of_mem hm
        rcases hq i (List.getElem?_eq_some_iff.1 hi).1 _ hi with h3 | ⟨h3, h4⟩
        · simp only at h3; rw [h2] at h3; exact h3 rfl
        · simp only at h3 h4
          by_cases hp : nd.edge.parent = noTag
          · rw [at_root hp] at h3; exact h3 rfl
          · cases hfp : findT nd.edge.parent l with
            | none =>
              have he2 : edgeOf E nd.edge.parent = none := by rw [h.edge, hfp]; rfl
              cases n with
              | zero => simp [comes, doneB] at hd
              | succ n => rw [comes_none hp he2] at hd; simp [doneB] at hd
            | some np =>
              have hnp := ih nd.edge.parent np hd hp hfp
              have h5 := (h.each _ (findT_mem hfp)).1
              simp only at h5
              have hc : cameOf E nd.edge.parent = comes n E nd.edge.parent := comes_full hd
              have hst : np.state = (cameOf E nd.edge.parent).1 := by rw [h5, hnp]; rfl
              rw [at_other hp, hfp] at h3 h4
              simp only [Option.getD_some] at h3 h4
              rw [hst, hc] at h3 h4
              simp only [doneB, Bool.or_eq_true, decide_eq_true_eq] at hd
              exact hd.elim h3 h4
  have each : ∀ p ∈ l, p = (p.2.edge.id, nodeOf E p.2.edge) := by
    intro p hp
    obtain ⟨h1, h2⟩ := h.each p hp
    have hm : p.2.edge ∈ E := by rw [← h.edges]; exact List.mem_map.2 ⟨p, hp, rfl⟩
    have h3 : p.2 = nodeOf E p.2.edge := by
      rcases h2 with h2 | h2
      · exact h2
      · cases hd : doneB (cameOf E p.2.edge.id) with
        | false => rw [node_pend hg hm hd]; exact h2
        | true =>
          have hf : findT p.1 l = some p.2 := by
            have he := h.edge p.1
            rw [h1, edge_of_mem hg.uniq hm] at he
            cases hf : findT p.2.edge.id l with
            | none => rw [hf] at he; cases he
            | some n =>
              rw [h1, hf]
              obtain ⟨i, hi⟩ := List.getElem?_of_mem hp
              obtain ⟨j, hj⟩ := List.getElem?_of_mem (findT_mem hf)
              rcases Nat.lt_trichotomy i j with hij | hij | hij
              · exact absurd (by simpa using h1) (h.uniq hg hi hj hij)
              · subst hij; rw [hi] at hj; injection hj with hj; rw [hj]
              · exact absurd (by simpa using h1.symm) (h.uniq hg hj hi hij)
          exact key _ p.1 p.2 (by rw [h1]; exact hd) (by rw [h1]; exact hg.tag _ hm) hf
    exact Prod.ext h1 h3
  have e : nodesOf E = l.map fun p => (p.2.edge.id, nodeOf E p.2.edge) := by
    have := congrArg (List.map fun e : EdgeD => (e.id, nodeOf E e)) h.edges
    rw [List.map_map] at this
    exact this.symm
  rw [e]
  conv => lhs; rw [← List.map_id l]
  exact List.map_congr_left fun p hp => each p hp

/-! ### For the walk -/
theorem ents_at {l : List (TagD × NodeD)} {i : Nat} {p : D × D} (h : (ents l)[i]? = some p) : ∃ q, l[i]? = some q ∧ p = (tD q.1, nD q.2) := by
  unfold ents at h
  rw [List.getElem?_map] at h
  obtain ⟨q, h1, h2⟩ := Option.map_eq_some_iff.1 h
  exact ⟨q, h1, h2.symm⟩
theorem okL_root : okL rootS := by
  refine ⟨by decide, ?_⟩
  intro f hf
  simp only [rootS, List.mem_cons, List.not_mem_nil, or_false] at hf
  rcases hf with rfl | rfl | rfl | rfl | rfl <;> decide
theorem okL_comes {E : List EdgeD} (hok : ∀ e ∈ E, okX e.lens) : ∀ n id, okL (comes n E id).2.1
  | 0, id => okL_nil
  | n + 1, id => by
    by_cases h0 : id = noTag
    · subst h0; rw [comes_root]; exact okL_root
    · cases he : edgeOf E id with
      | none => rw [comes_none h0 he]; exact okL_nil
      | some e =>
        rw [comes_succ h0 he]
        unfold stepC
        split
        · split
          · exact okL_apply (okL_comes hok n e.parent) (hok e (edge_mem he).1)
          · exact okL_nil
        · split <;> exact okL_nil
/-- How many entries have not come in a range over a map. -/
def unseen (n : Nat) (seen : List Nat) : Nat := ((List.range n).filter fun i => !seen.contains i).length
theorem unseen_next {n i : Nat} {seen : List Nat} (hi : i < n) (hs : i ∉ seen) : unseen n (seen ++ [i]) < unseen n seen := by
  unfold unseen
  have e : ((List.range n).filter fun j => !(seen ++ [i]).contains j) = ((List.range n).filter fun j => !seen.contains j).filter fun j => !(j == i) := by
    rw [List.filter_filter]
    congr 1
    funext j
    simp only [List.contains_append, Bool.not_or]
    rw [Bool.and_comm]
    congr 1
    simp
    rw [Bool.eq_iff_iff]; simp
  rw [e]
  refine List.length_filter_lt_length_iff_exists.2 ⟨i, List.mem_filter.2 ⟨List.mem_range.2 hi, by simpa using hs⟩, by simp⟩
theorem nodes_half {E : List EdgeD} {e : EdgeD} (hg : Good (E ++ [e])) : Half (E ++ [e]) (nodesOf E ++ [(e.id, pend e)]) := by
  have hgE : Good E := ⟨fun x hx => hg.ok x (List.mem_append_left _ hx), fun x hx => hg.tag x (List.mem_append_left _ hx), (List.pairwise_append.1 hg.uniq).1⟩
  have more : ∀ n id, doneB (comes n E id) = true → comes n (E ++ [e]) id = comes n E id := by
    intro n
    induction n with
    | zero => intro id h; rfl
    | succ n ih =>
      intro id h
      by_cases h0 : id = noTag
      · subst h0; rw [comes_root, comes_root]
      · cases he : edgeOf E id with
        | none => rw [comes_none h0 he] at h; simp [doneB] at h
        | some f =>
          have he2 : edgeOf (E ++ [e]) id = some f := by unfold edgeOf at *; rw [List.find?_append, he]; rfl
          rw [comes_succ h0 he] at h
          rw [comes_succ h0 he, comes_succ h0 he2, ih _ (step_done h)]
  constructor
  · unfold nodesOf
    rw [List.map_append, List.map_map]
    show E.map (fun f => f) ++ [e] = _
    rw [List.map_id']
  · intro p hp
    rcases List.mem_append.1 hp with hp | hp
    · obtain ⟨f, hf, rfl⟩ := List.mem_map.1 hp
      refine ⟨rfl, ?_⟩
      show nodeOf E f = nodeOf (E ++ [e]) f ∨ nodeOf E f = pend f
      cases hd : doneB (cameOf E f.id) with
      | true =>
        left
        have h1 : cameOf (E ++ [e]) f.id = cameOf E f.id := by
          have h2 : comes (E.length + 1) (E ++ [e]) f.id = cameOf E f.id := more _ _ hd
          rw [← h2]
          exact comes_full (by rw [h2]; exact hd)
        show NodeD.mk f (cameOf E f.id).1 (cameOf E f.id).2.1 (cameOf E f.id).2.2 = NodeD.mk f (cameOf (E ++ [e]) f.id).1 (cameOf (E ++ [e]) f.id).2.1 (cameOf (E ++ [e]) f.id).2.2
        rw [h1]
      | false => exact .inr (node_pend hgE hf hd)
    · rw [List.mem_singleton.1 hp]; exact ⟨rfl, .inr rfl⟩
theorem putT_new {β : Type} {k : TagD} {v : β} : ∀ {l : List (TagD × β)}, findT k l = none → putT k v l = l ++ [(k, v)]
  | [], _ => rfl
  | p :: l, h => by
    unfold findT at h
    split at h
    · cases h
    · rename_i e
      unfold putT; rw [if_neg e, putT_new h]; rfl
theorem find_nodes (E : List EdgeD) (k : TagD) : findT k (nodesOf E) = (edgeOf E k).map (nodeOf E) := by
  unfold nodesOf
  generalize nodeOf E = g
  induction E with
  | nil => rfl
  | cons e E ih =>
    simp only [List.map_cons, findT, edgeOf]
    by_cases h : k = e.id
    · rw [if_pos h, List.find?_cons_of_pos (by simp [h])]; rfl
    · rw [if_neg h, List.find?_cons_of_neg (by simp only [decide_eq_true_eq]; exact fun e => h e.symm)]; exact ih
/-- One more edge; the code. -/
def putE (E : List EdgeD) (e : EdgeD) : List EdgeD × Int :=
  if edgeB e = false then (E, 5) else match edgeOf E e.id with
    | some f => if f = e then (E, 7) else (E, 15)
    | none => if 40 ≤ E.length then (E, 9) else (E ++ [e], 0)
theorem edgeOf_none {E : List EdgeD} {k : TagD} (h : edgeOf E k = none) : ∀ f ∈ E, ¬ f.id = k := by
  intro f hf e
  unfold edgeOf at h
  have := List.find?_eq_none.1 h f hf
  simp [e] at this
theorem tag_real {t : TagD} (h : tagB t = true) : ¬ t = noTag := by
  rintro rfl; simp [tagB, noTag] at h
theorem Good.more {E : List EdgeD} {e : EdgeD} (hg : Good E) (hx : okX e.lens) (hb : edgeB e = true) (hn : edgeOf E e.id = none) : Good (E ++ [e]) := by
  have ht : tagB e.id = true := by unfold edgeB at hb; simp only [Bool.and_eq_true] at hb; exact hb.1.1
  refine ⟨fun x hx2 => ?_, fun x hx2 => ?_, List.pairwise_append.2 ⟨hg.uniq, List.pairwise_singleton .., fun a ha b hb => ?_⟩⟩
  · rcases List.mem_append.1 hx2 with h | h
    · exact hg.ok x h
    · rw [List.mem_singleton.1 h]; exact hx
  · rcases List.mem_append.1 hx2 with h | h
    · exact hg.tag x h
    · rw [List.mem_singleton.1 h]; exact tag_real ht
  · rw [List.mem_singleton.1 hb]; exact edgeOf_none hn a ha
theorem Good.put {E : List EdgeD} {e : EdgeD} (hg : Good E) (hx : okX e.lens) : Good (putE E e).1 := by
  unfold putE
  split
  · exact hg
  · rename_i hb
    split
    · split <;> exact hg
    · rename_i hn
      split
      · exact hg
      · exact hg.more hx (by simpa using hb) hn

theorem depth_le {E : List EdgeD} : ∀ n id, 0 ≤ (comes n E id).2.2 ∧ (comes n E id).2.2 ≤ n
  | 0, id => by simp [comes]
  | n + 1, id => by
    by_cases h0 : id = noTag
    · subst h0; rw [comes_root]; simp; omega
    · cases he : edgeOf E id with
      | none => rw [comes_none h0 he]; simp; omega
      | some e =>
        rw [comes_succ h0 he]
        have := depth_le (E := E) n e.parent
        unfold stepC
        split
        · split
          · simp only; omega
          · simp; omega
        · split <;> (simp; omega)
section
variable {E : List EdgeD} {l : List (TagD × NodeD)} {e : EdgeD} {n : NodeD}
theorem Half.dead (hg : Good E) (h : Half E l) (hm : n.edge ∈ E) (hp : n = Vm.pend n.edge) (h3 : (atT l n.edge.parent).state = 3) : nodeOf E n.edge = ⟨n.edge, 3, n.schema, n.depth⟩ := by
  have hs : n.schema = [] := by rw [hp]; rfl
  have hd : n.depth = 0 := by rw [hp]; rfl
  have hat := (h.at (.inr h3)).1
  rw [node_next hg hm, hs, hd]
  unfold stepC
  rw [if_neg (by rw [← hat, h3]; decide), if_pos (by rw [← hat, h3])]
theorem Half.unfit (hg : Good E) (h : Half E l) (hm : n.edge ∈ E) (hp : n = Vm.pend n.edge) (h2 : (atT l n.edge.parent).state = 2) (hc : ¬ (applyS (atT l n.edge.parent).schema n.edge.lens).2 = 0) : nodeOf E n.edge = ⟨n.edge, 3, n.schema, n.depth⟩ := by
  have hs : n.schema = [] := by rw [hp]; rfl
  have hd : n.depth = 0 := by rw [hp]; rfl
  have hat := h.at (.inl h2)
  rw [node_next hg hm, hs, hd]
  unfold stepC
  rw [if_pos (by rw [← hat.1, h2]), if_neg (by rw [← hat.2.1]; exact hc)]
theorem Half.live (hg : Good E) (h : Half E l) (hm : n.edge ∈ E) (h2 : (atT l n.edge.parent).state = 2) (hc : (applyS (atT l n.edge.parent).schema n.edge.lens).2 = 0) : nodeOf E n.edge = ⟨n.edge, 2, (applyS (atT l n.edge.parent).schema n.edge.lens).1, (atT l n.edge.parent).depth + 1⟩ := by
  have hat := h.at (.inl h2)
  rw [node_next hg hm]
  unfold stepC
  rw [if_pos (by rw [← hat.1, h2]), if_pos (by rw [← hat.2.1]; exact hc), hat.2.1, hat.2.2]
end

section
variable {E : List EdgeD} {e f : EdgeD}
theorem put_e5 (h : edgeB e = false) : putE E e = (E, 5) := if_pos h
theorem put_e7 (h : edgeB e = true) (hf : edgeOf E e.id = some f) (hs : f = e) : putE E e = (E, 7) := by unfold putE; rw [if_neg (by rw [h]; simp), hf]; exact if_pos hs
theorem put_e15 (h : edgeB e = true) (hf : edgeOf E e.id = some f) (hs : ¬ f = e) : putE E e = (E, 15) := by unfold putE; rw [if_neg (by rw [h]; simp), hf]; exact if_neg hs
theorem put_e9 (h : edgeB e = true) (hf : edgeOf E e.id = none) (hs : 40 ≤ E.length) : putE E e = (E, 9) := by unfold putE; rw [if_neg (by rw [h]; simp), hf]; exact if_pos hs
theorem put_e0 (h : edgeB e = true) (hf : edgeOf E e.id = none) (hs : ¬ 40 ≤ E.length) : putE E e = (E ++ [e], 0) := by unfold putE; rw [if_neg (by rw [h]; simp), hf]; exact if_neg hs
theorem find_some {k : TagD} (h : (findT k (nodesOf E)).isSome = true) : ∃ f, edgeOf E k = some f ∧ (findT k (nodesOf E)).getD noNode = nodeOf E f ∧ f ∈ E := by
  rw [find_nodes] at h ⊢
  cases hf : edgeOf E k with
  | none => rw [hf] at h; cases h
  | some f => exact ⟨f, rfl, rfl, (edge_mem hf).1⟩
theorem find_miss {k : TagD} (h : (findT k (nodesOf E)).isSome = false) : edgeOf E k = none ∧ findT k (nodesOf E) = none := by
  rw [find_nodes] at h ⊢
  cases hf : edgeOf E k with
  | none => exact ⟨rfl, rfl⟩
  | some f => rw [hf] at h; cases h
theorem nodes_len : (ents (nodesOf E)).length = E.length := by simp [ents, nodesOf]
end
end Go.Vm
end
section
namespace Go.Vm
open Go.RowKit Go.Proofs
set_option linter.unusedVariables false
set_option linter.unusedSimpArgs false
section
variable {b : List UInt8} {f : Int} {s : St}
def edgeP (f : Int) (e : EdgeD) : List UInt8 := tagP f e.id.r e.id.n ++ (tagP f e.parent.r e.parent.n ++ lensP f e.lens)
def es1 (b : List UInt8) (f : Int) (s : St) : St := (tagR b f s).2
def es2 (b : List UInt8) (f : Int) (s : St) : St := (tagR b f (es1 b f s)).2
def es3 (b : List UInt8) (f : Int) (s : St) : St := (lensR b f (es2 b f s)).2
def edgeV (b : List UInt8) (f : Int) (s : St) : EdgeD := ⟨⟨(tagR b f s).1.1, (tagR b f s).1.2⟩, ⟨(tagR b f (es1 b f s)).1.1, (tagR b f (es1 b f s)).1.2⟩, (lensR b f (es2 b f s)).1⟩
def edgeR (b : List UInt8) (f : Int) (s : St) : EdgeD × St := if badR f (es3 b f s) = true then (noEdge, es3 b f s) else if edgeB (edgeV b f s) = false then (noEdge, ((es3 b f s).1, true)) else (edgeV b f s, es3 b f s)
def edgeO (b : List UInt8) (a : Nat) (f : Int) : Option (EdgeD × Nat) := match tagO b a f with
  | none => none
  | some i => match tagO b i.2 f with
    | none => none
    | some p => match lensO b p.2 f with
      | none => none
      | some x => if edgeB ⟨⟨i.1.1, i.1.2⟩, ⟨p.1.1, p.1.2⟩, x.1⟩ = true then some (⟨⟨i.1.1, i.1.2⟩, ⟨p.1.1, p.1.2⟩, x.1⟩, x.2) else none
def oE (g : Option (EdgeD × Nat)) : EdgeD := g.elim noEdge (·.1)
theorem edgeV_ok : okX (edgeV b f s).lens := lensR_okX
theorem es1_inv (hs : s.1 ≤ b.length) : (es1 b f s).1 ≤ b.length := tagR_inv hs
theorem es2_inv (hs : s.1 ≤ b.length) : (es2 b f s).1 ≤ b.length := tagR_inv (es1_inv hs)
theorem es3_inv (hs : s.1 ≤ b.length) : (es3 b f s).1 ≤ b.length := lensR_inv (es2_inv hs)
theorem edgeR_inv (hs : s.1 ≤ b.length) : (edgeR b f s).2.1 ≤ b.length := by unfold edgeR; split; exact es3_inv hs; split <;> exact es3_inv hs
theorem edgeR_bad3 (h : badR f (es3 b f s) = true) : (edgeR b f s).1 = noEdge ∧ badR f (edgeR b f s).2 = true := by
  unfold edgeR; rw [if_pos h]; exact ⟨rfl, h⟩
theorem edgeR_bad2 (h : badR f (es2 b f s) = true) : (edgeR b f s).1 = noEdge ∧ badR f (edgeR b f s).2 = true := edgeR_bad3 (lensR_badS h).2
theorem edgeR_bad1 (h : badR f (es1 b f s) = true) : (edgeR b f s).1 = noEdge ∧ badR f (edgeR b f s).2 = true := edgeR_bad2 (tagR_badS h).2
theorem edgeR_badS (h : badR f s = true) : (edgeR b f s).1 = noEdge ∧ badR f (edgeR b f s).2 = true := edgeR_bad1 (tagR_badS h).2
theorem noEdge_ok : okX noEdge.lens := noLens_ok
theorem edgeR_okX : okX (edgeR b f s).1.lens := by
  unfold edgeR
  split
  · exact noEdge_ok
  · split
    · exact noEdge_ok
    · exact edgeV_ok
theorem lensO_bound {a : Nat} {x : LensD × Nat} (hf : fmtF f) (ha : a ≤ b.length) (h : lensO b a f = some x) : x.2 ≤ b.length := by
  have h1 := lensR_get (b := b) hf (a := a) ha
  have h2 := lensR_inv (b := b) (f := f) (s := (a, false)) ha
  rw [h] at h1; simp only at h1; rw [h1] at h2; exact h2
theorem edgeR_get (hf : fmtF f) {a : Nat} (ha : a ≤ b.length) : match edgeO b a f with
    | some x => edgeR b f (a, false) = (x.1, (x.2, false))
    | none => (edgeR b f (a, false)).1 = noEdge ∧ badR f (edgeR b f (a, false)).2 = true := by
  unfold edgeO
  have h1 := tagR_get (b := b) hf (a := a)
  cases g1 : tagO b a f with
  | none => rw [g1] at h1; simp only at h1; exact edgeR_bad1 h1
  | some i =>
    rw [g1] at h1; simp only at h1 ⊢
    have e1 : es1 b f (a, false) = (i.2, false) := by unfold es1; rw [h1]
    have l1 := tagO_le g1
    have h2 := tagR_get (b := b) hf (a := i.2)
    cases g2 : tagO b i.2 f with
    | none => rw [g2] at h2; simp only at h2; exact edgeR_bad2 (by unfold es2; rw [e1]; exact h2)
    | some p =>
      rw [g2] at h2; simp only at h2 ⊢
      have e2 : es2 b f (a, false) = (p.2, false) := by unfold es2; rw [e1, h2]
      have l2 := tagO_le g2
      have h3 := lensR_get (b := b) hf (a := p.2) (by omega)
      cases g3 : lensO b p.2 f with
      | none => rw [g3] at h3; simp only at h3; exact edgeR_bad3 (by unfold es3; rw [e2]; exact h3.2)
      | some x =>
        rw [g3] at h3; simp only at h3 ⊢
        have e3 : es3 b f (a, false) = (x.2, false) := by unfold es3; rw [e2, h3]
        have ev : edgeV b f (a, false) = ⟨⟨i.1.1, i.1.2⟩, ⟨p.1.1, p.1.2⟩, x.1⟩ := by unfold edgeV; rw [e2, e1, h1, h2, h3]
        have hnb : ¬ badR f (es3 b f (a, false)) = true := by rw [e3]; exact badR_right hf
        by_cases hB : edgeB ⟨⟨i.1.1, i.1.2⟩, ⟨p.1.1, p.1.2⟩, x.1⟩ = true
        · rw [if_pos hB]
          simp only
          unfold edgeR; rw [if_neg hnb, ev, if_neg (by rw [hB]; decide), e3]
        · rw [if_neg hB]
          simp only
          unfold edgeR; rw [if_neg hnb, ev, if_pos (by simpa using hB)]
          exact ⟨rfl, badR_spoilt⟩
theorem edge_both (hf : fmtF f) : (edgeR b f (0, false)).1 = oE (edgeO b 0 f) ∧ badR f (edgeR b f (0, false)).2 = !(edgeO b 0 f).isSome ∧ ((edgeO b 0 f).isSome = true → leftR b f (edgeR b f (0, false)).2 = (b.length : Int) - tE (edgeO b 0 f)) := by
  have h := edgeR_get (b := b) hf (a := 0) (Nat.zero_le _)
  cases e : edgeO b 0 f with
  | none => rw [e] at h; simp only at h; exact ⟨h.1, by rw [h.2]; rfl, fun k => by cases k⟩
  | some x =>
    rw [e] at h; simp only at h; rw [h]
    have hb : badR f (x.2, false) = false := by simpa using badR_right hf (a := x.2)
    refine ⟨rfl, hb, fun _ => ?_⟩
    unfold leftR; rw [hb]; rfl
theorem tagB_in {t : TagD} (h : tagB t = true) : inI64 t.r ∧ inI64 t.n := by
  unfold tagB at h
  simp only [Bool.and_eq_true, decide_eq_true_eq] at h
  exact ⟨⟨by omega, by omega⟩, ⟨by omega, by omega⟩⟩
theorem edgeB_in {e : EdgeD} (h : edgeB e = true) : (inI64 e.id.r ∧ inI64 e.id.n) ∧ (inI64 e.parent.r ∧ inI64 e.parent.n) ∧ rightL e.lens = true := by
  unfold edgeB at h
  simp only [Bool.and_eq_true, Bool.or_eq_true, decide_eq_true_eq] at h
  refine ⟨tagB_in h.1.1, ?_, h.2.2⟩
  rcases h.1.2 with k | k
  · rw [k]; exact ⟨⟨by decide, by decide⟩, ⟨by decide, by decide⟩⟩
  · exact tagB_in k.1
theorem edge_put (hf : fmtF f) {e : EdgeD} {pre post : List UInt8} (h : edgeB e = true) : edgeO (pre ++ (edgeP f e ++ post)) pre.length f = some (e, pre.length + (edgeP f e).length) := by
  obtain ⟨⟨a1, a2⟩, ⟨b1, b2⟩, hr⟩ := edgeB_in h
  have e1 := tag_put hf (r := e.id.r) (n := e.id.n) (pre := pre) (post := tagP f e.parent.r e.parent.n ++ (lensP f e.lens ++ post)) a1 a2
  have e2 := tag_put hf (r := e.parent.r) (n := e.parent.n) (pre := pre ++ tagP f e.id.r e.id.n) (post := lensP f e.lens ++ post) b1 b2
  have e3 := lens_put hf (x := e.lens) (pre := (pre ++ tagP f e.id.r e.id.n) ++ tagP f e.parent.r e.parent.n) (post := post) hr
  simp only [List.append_assoc, List.length_append, Nat.add_assoc] at e1 e2 e3
  unfold edgeO edgeP
  simp only [List.append_assoc, List.length_append, Nat.add_assoc]
  rw [e1]
  simp only
  rw [e2]
  simp only
  rw [e3]
  simp only
  rw [if_pos h]
theorem edge_round {e : EdgeD} (hf : fmtF f) (h : edgeB e = true) : edgeR (edgeP f e) f (0, false) = (e, ((edgeP f e).length, false)) := by
  have h1 := edge_put hf (pre := []) (post := []) h
  have h2 := edgeR_get (b := edgeP f e) hf (a := 0) (Nat.zero_le _)
  simp only [List.nil_append, List.append_nil, List.length_nil, Nat.zero_add] at h1
  rw [h1] at h2
  exact h2
theorem edgeP_wrong (hf : ¬ fmtF f) (e : EdgeD) : edgeP f e = [] := by
  unfold edgeP tagP; rw [putN_wrong hf, putN_wrong hf, putN_wrong hf, putN_wrong hf, lensP_wrong hf]; rfl
def okIT (t : TagD) : Prop := inI64 t.r ∧ inI64 t.n
def okIE (e : EdgeD) : Prop := okIT e.id ∧ okIT e.parent ∧ okIL e.lens
theorem tagP_len {r n : Int} (h0 : inI64 r) (h1 : inI64 n) : (tagP f r n).length ≤ 20 := by
  have a := putN_len f h0
  have b := putN_len f h1
  unfold tagP
  rw [List.length_append]
  omega
theorem edgeP_len {e : EdgeD} (hi : okIE e) (h : OkB e.lens) : (edgeP f e).length ≤ 31000 := by
  have a := tagP_len (f := f) hi.1.1 hi.1.2
  have b := tagP_len (f := f) hi.2.1.1 hi.2.1.2
  have c := lensP_len (f := f) h
  unfold edgeP
  simp only [List.length_append]
  omega
end
end Go.Vm
end
