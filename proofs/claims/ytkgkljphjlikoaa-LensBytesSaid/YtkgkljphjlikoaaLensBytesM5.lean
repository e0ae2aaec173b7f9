/- Part 5 of what the proof of LensBytes stands on: LnSchema3, LnHeavy, LnTables, LnLensS, LnLens, LnLens2, LnLens3, LnMerged, LnArr, LnApply, LnApplyR, TrPlain, LbAwake, Cd, Pn, Pt, XgV, Pg. -/
import Derived.Test.YtkgkljphjlikoaaLensBytesM4
section
namespace Go.Vm
open Go.RowKit Go.Proofs
set_option linter.unusedVariables false
set_option linter.unusedSimpArgs false
set_option maxRecDepth 10000

theorem ins_next {l : List FieldD} {f p : FieldD} {i k : Nat} (h : i ≤ k) (hp : l[k]? = some p) : (l.take i ++ f :: (l.drop i).take (k - i)) ++ [p] = l.take i ++ f :: (l.drop i).take (k + 1 - i) := by
  have : (l.drop i)[k - i]? = some p := by rw [List.getElem?_drop, show i + (k - i) = k by omega]; exact hp
  rw [show k + 1 - i = (k - i) + 1 by omega, take_next this]; simp
theorem ins_end {l : List FieldD} {f : FieldD} {i k : Nat} (hk : l.length ≤ k) : l.take i ++ f :: (l.drop i).take (k - i) = l.take i ++ f :: l.drop i := by
  rw [List.take_of_length_le (show (l.drop i).length ≤ k - i by rw [List.length_drop]; omega)]
theorem ins_len {l : List FieldD} {f : FieldD} {i m n : Nat} (h : l.length ≤ n) : (l.take i ++ f :: (l.drop i).take m).length ≤ n + 1 := by
  rw [List.length_append, List.length_cons, List.length_take, List.length_take, List.length_drop]; omega
theorem with_5 {l : List FieldD} {f : FieldD} (h : (rightS l && rightF f) = false) : withS l f = ([], 5) := if_pos h
theorem with_7 {l : List FieldD} {f : FieldD} (h : rightS l = true ∧ rightF f = true) (h1 : 0 ≤ indexS l f.at_) : withS l f = ([], 7) := by unfold withS; rw [h.1, h.2, if_neg (by simp), if_pos h1]
theorem with_14 {l : List FieldD} {f : FieldD} (h : rightS l = true ∧ rightF f = true) (h1 : ¬ 0 ≤ indexS l f.at_) (h2 : 16 ≤ l.length) : withS l f = ([], 14) := by unfold withS; rw [h.1, h.2, if_neg (by simp), if_neg h1, if_pos h2]
theorem with_0 {l : List FieldD} {f : FieldD} (h : rightS l = true ∧ rightF f = true) (h1 : ¬ 0 ≤ indexS l f.at_) (h2 : l.length < 16) : withS l f = (insF l f, 0) := by unfold withS; rw [h.1, h.2, if_neg (by simp), if_neg h1, if_neg (by omega)]

set_option maxHeartbeats 1000000 in
theorem schemaWith_any (l : List FieldD) (f : FieldD) (ho : okL l) (hf : f.cases.length ≤ 1000000) : Contract Try.prog 101 [.row (l.map fD), fD f] [.d (.row ((withS l f).1.map fD)), .d (.sc (.int .i64 (withS l f).2))] := by
 refine T.fn [] Try.func101 ?_
 have hl0 := ho.1
 refine xscopeR (fb := []) T.ok (Nat.le_of_ble_eq_true rfl) [0, 1] (Sum.elim (fun (s : Nat × Nat × List FieldD) => 0) (fun (s : Nat × Nat × List FieldD) => 1)) (fun l => match Nat.beq l 0 with | true => [0, 3] | false => [0]) (Sum.elim (fun (s : Nat × Nat × List FieldD) => [(7, .c (.d (.sc (.int .i64 ((s.1 : Nat) : Int))))), (6, .c (.own 27 26 (s.2.2.map fD)))]) (fun (s : Nat × Nat × List FieldD) => [(7, .c (.d (.sc (.int .i64 ((s.1 : Nat) : Int))))), (6, .c (.own 27 26 (s.2.2.map fD)))])) (Sum.elim (fun (s : Nat × Nat × List FieldD) => s.1 ≤ l.length ∧ s.2.2 = l.take s.1 ∧ (∀ (j : Nat) (q : FieldD), j < s.1 → l[j]? = some q → lessB q.at_ f.at_ = true) ∧ (rightS l = true ∧ rightF f = true) ∧ ¬ 0 ≤ indexS l f.at_ ∧ l.length < 16) (fun (s : Nat × Nat × List FieldD) => s.1 ≤ l.length ∧ (∃ i, i ≤ s.1 ∧ s.2.2 = l.take i ++ f :: (l.drop i).take (s.1 - i) ∧ insF l f = l.take i ++ f :: l.drop i) ∧ (rightS l = true ∧ rightF f = true) ∧ ¬ 0 ≤ indexS l f.at_ ∧ l.length < 16)) (Sum.elim (fun (s : Nat × Nat × List FieldD) => l.length - s.1 + 1) (fun (s : Nat × Nat × List FieldD) => l.length - s.1)) (fun z _ => by rcases z with _ | _ <;> rfl) (by repeat (first | exact trivial | refine And.intro (fun _ => rfl) ?_)) (fun z _ => by rcases z with _ | _ <;> (repeat (first | exact trivial | refine And.intro (fun _ => rfl) ?_))) ?p1 ?f1
 case' p1 =>
  rintro (s | s)
  case' inl =>
   rintro ⟨hk, hA, hlt, hg⟩
   have hg3 := hg.2.2
   have hAl : s.2.2.length ≤ 16 := by rw [hA]; exact length_take_le (by omega)
   refine And.intro ⟨T.mixed, by decide +kernel⟩ ?_
   refine x_len ?_
   refine br (fun hg1 => ?y1) (fun hg1 => ?n1)
   case' y1 =>
    obtain ⟨p, hp⟩ := elem_at hg1
    have hkl := lt_len hp
    have hok := ho.at hp
    first | refine x_ix (by exact mapAt hp) ?_ | refine x_ixI (by exact mapAt hp) ?_
    refine x_call T.en_124 (less_any _ _) ?_
    refine br (fun hc2 => ?y2) (fun hc2 => ?n2)
    case' y2 =>
     first | refine x_ix (by exact mapAt hp) ?_ | refine x_ixI (by exact mapAt hp) ?_
     refine x_call T.en_64 (fieldOwn_any _ (by assumption)) ?_
     first | refine x_app ?_ (by first | exact strs_wide | exact fD_wide | (simp [D.cells])) (hz := by first | exact snoc_map | exact one_map | rfl) | refine x_appN ?_ (by first | exact strs_wide | exact fD_wide | (simp [D.cells]))
     first | refine x_bin (pr_add1 (by omega)) rfl ?_ | refine x_inc ?_ | refine x_add ?_ | refine x_bin rfl rfl ?_
     refine x_jmp (Sum.inl (s.1 + 1, 0, s.2.2 ++ [p])) ⟨lt_len hp, by rw [hA]; exact (take_next hp).symm, (fun j q hj hq => (Nat.lt_succ_iff_lt_or_eq.1 hj).elim (fun h => hlt j q h hq) (fun e => by subst e; rw [hp] at hq; injection hq with hq; subst hq; assumption)), hg⟩ rfl (by (try dsimp only [jlt, Sum.elim_inl, Sum.elim_inr]); have := lt_len hp; (try dsimp only); omega) rfl (x_ent (by first | rfl | (simp only [Tr.get]; simp; done)) (x_ent (by first | rfl | (simp only [Tr.get]; simp; done)) trivial)) rfl
    case' n2 =>
     refine x_call T.en_64 (fieldOwn_any _ (by assumption)) ?_
     first | refine x_app ?_ (by first | exact strs_wide | exact fD_wide | (simp [D.cells])) (hz := by first | exact snoc_map | exact one_map | rfl) | refine x_appN ?_ (by first | exact strs_wide | exact fD_wide | (simp [D.cells]))
     refine x_jmp (Sum.inr (s.1, 0, s.2.2 ++ [f])) ⟨hk, ⟨s.1, Nat.le_refl _, by rw [hA]; simp, (by first | exact ins_at hlt (.inl (past_end (by assumption))) | exact ins_at hlt (.inr ⟨p, hp, by simp_all⟩))⟩, hg⟩ rfl (by (try dsimp only [jlt, Sum.elim_inl, Sum.elim_inr]); (try dsimp only); omega) rfl (x_ent (by first | rfl | (simp only [Tr.get]; simp; done)) (x_ent (by first | rfl | (simp only [Tr.get]; simp; done)) trivial)) rfl
   case' n1 =>
    refine brF ?_
    refine x_call T.en_64 (fieldOwn_any _ (by assumption)) ?_
    first | refine x_app ?_ (by first | exact strs_wide | exact fD_wide | (simp [D.cells])) (hz := by first | exact snoc_map | exact one_map | rfl) | refine x_appN ?_ (by first | exact strs_wide | exact fD_wide | (simp [D.cells]))
    refine x_jmp (Sum.inr (s.1, 0, s.2.2 ++ [f])) ⟨hk, ⟨s.1, Nat.le_refl _, by rw [hA]; simp, (by first | exact ins_at hlt (.inl (past_end (by assumption))) | exact ins_at hlt (.inr ⟨p, hp, by simp_all⟩))⟩, hg⟩ rfl (by (try dsimp only [jlt, Sum.elim_inl, Sum.elim_inr]); (try dsimp only); omega) rfl (x_ent (by first | rfl | (simp only [Tr.get]; simp; done)) (x_ent (by first | rfl | (simp only [Tr.get]; simp; done)) trivial)) rfl
  case' inr =>
   rintro ⟨hk, ⟨i, hik, hA, hins⟩, hg⟩
   have hg3 := hg.2.2
   have hAl : s.2.2.length ≤ 17 := by rw [hA]; exact ins_len (n := 16) (by omega)
   refine x_len ?_
   refine br (fun hc4 => ?y4) (fun hc4 => ?n4)
   case' y4 =>
    obtain ⟨p, hp⟩ := elem_at hc4
    have hkl := lt_len hp
    have hok := ho.at hp
    first | refine x_ix (by exact mapAt hp) ?_ | refine x_ixI (by exact mapAt hp) ?_
    refine x_call T.en_64 (fieldOwn_any _ (by assumption)) ?_
    first | refine x_app ?_ (by first | exact strs_wide | exact fD_wide | (simp [D.cells])) (hz := by first | exact snoc_map | exact one_map | rfl) | refine x_appN ?_ (by first | exact strs_wide | exact fD_wide | (simp [D.cells]))
    first | refine x_bin (pr_add1 (by omega)) rfl ?_ | refine x_inc ?_ | refine x_add ?_ | refine x_bin rfl rfl ?_
    refine x_jmp (Sum.inr (s.1 + 1, 0, s.2.2 ++ [p])) ⟨lt_len hp, ⟨i, by (try dsimp only); omega, by rw [hA]; exact ins_next hik hp, hins⟩, hg⟩ rfl (by (try dsimp only [jlt, Sum.elim_inl, Sum.elim_inr]); have := lt_len hp; (try dsimp only); omega) rfl (x_ent (by first | rfl | (simp only [Tr.get]; simp; done)) (x_ent (by first | rfl | (simp only [Tr.get]; simp; done)) trivial)) rfl
 case' f1 =>
  skip
  refine x_call T.en_98 (schemaRight_any _ (by assumption)) ?_
  refine br (fun hg5 => ?y5) (fun hg5 => ?n5)
  case' y5 =>
   refine brT ?_
   have h5 : (rightS l && rightF f) = false := by simp_all
  case' n5 =>
   refine x_call T.en_52 (fieldRight_any _ (by assumption)) ?_
   refine br (fun hc7 => ?y7) (fun hc7 => ?n7)
   case' y7 =>
    have h5 : (rightS l && rightF f) = false := by simp_all
   case' n7 =>
    have hg1 : rightS l = true ∧ rightF f = true := by simp_all
    refine x_call T.en_102 (schemaIndex_any _ _ ho.1) ?_
    refine br (fun hc8 => ?y8) (fun hc8 => ?n8)
    case' y8 =>
     have h7 := hc8
    case' n8 =>
     have hg2 : ¬ 0 ≤ indexS l f.at_ := hc8
     refine x_len ?_
     refine br (fun hc9 => ?y9) (fun hc9 => ?n9)
     case' y9 =>
      have h14 : 16 ≤ l.length := by omega
     case' n9 =>
      have hg3 : l.length < 16 := by omega
      have hg : (rightS l = true ∧ rightF f = true) ∧ ¬ 0 ≤ indexS l f.at_ ∧ l.length < 16 := ⟨hg1, hg2, hg3⟩
      refine x_len ?_
      first | refine x_bin (pr_add1 (by omega)) rfl ?_ | refine x_inc ?_ | refine x_add ?_ | refine x_bin rfl rfl ?_
      refine x_make ?_
      refine x_jmp (Sum.inl (0, 27, [])) ⟨Nat.zero_le _, rfl, fun j q hj => absurd hj (Nat.not_lt_zero _), hg⟩ rfl trivial rfl (x_ent (by first | rfl | (simp only [Tr.get]; simp; done)) (x_ent (by first | rfl | (simp only [Tr.get]; simp; done)) trivial)) rfl
 all_goals (refine x_ret ?_; simp only [fitsL, fits, C.asD, and_true] <;> (first | (rw [with_5 h5]; exact ⟨rfl, rfl⟩) | (rw [with_7 hg1 h7]; exact ⟨rfl, rfl⟩) | (rw [with_14 hg1 hg2 h14]; exact ⟨rfl, rfl⟩) | (rw [with_0 hg.1 hg.2.1 hg.2.2]; exact ⟨row_inj (by rw [hA, ins_end (past_end (by assumption)), hins]), rfl⟩)))
end Go.Vm
end
section
namespace Go.Vm
open Go.RowKit Go.Proofs
set_option linter.unusedVariables false
set_option linter.unusedSimpArgs false
set_option maxRecDepth 10000

def heavyF (f : FieldD) : Bool := decide (200 < f.at_.group.size) || decide (200 < f.at_.name.size) || decide (200 < f.deft.size) || decide (20 < f.cases.length) || f.cases.any (fun c => decide (200 < c.size))
def heavyS (l : List FieldD) : Bool := decide (40 < l.length) || l.any heavyF
theorem any_hit {α : Type} {l : List α} {f : α → Bool} {k : Nat} {p : α} (hp : l[k]? = some p) (h : f p = true) : l.any f = true := List.any_eq_true.2 ⟨p, List.mem_of_getElem? hp, h⟩
theorem any_next {α : Type} {l : List α} {f : α → Bool} {k : Nat} {p : α} (hp : l[k]? = some p) (h : (l.take k).any f = false) (hn : f p = false) : (l.take (k + 1)).any f = false := by
  rw [take_next hp, List.any_append, h]; simp [hn]
theorem any_end {α : Type} {l : List α} {f : α → Bool} {k : Nat} (hk : l.length ≤ k) (h : (l.take k).any f = false) : l.any f = false := by rwa [List.take_of_length_le hk] at h
theorem heavyF_ok {f : FieldD} (h : heavyF f = false) : f.cases.length ≤ 20 := by
  unfold heavyF at h; simp only [Bool.or_eq_false_iff, decide_eq_false_iff_not] at h; omega
theorem heavyS_ok {l : List FieldD} (h : heavyS l = false) : okL l := by
  unfold heavyS at h; simp only [Bool.or_eq_false_iff, decide_eq_false_iff_not] at h
  refine ⟨by omega, fun f hf => ?_⟩
  have := heavyF_ok (List.any_eq_false.1 h.2 f hf |> fun k => by simpa using k)
  omega

set_option maxHeartbeats 1000000 in
theorem refFieldHeavy_any (f : FieldD) : Contract Try.prog 42 [fD f] [.d (.sc (.bool (heavyF f)))] := by
 refine T.fn [] Try.func42 ?_
 refine x_len ?_
 refine br (fun hg1 => ?y1) (fun hg1 => ?n1)
 case' y1 =>
  refine brT ?_
  refine brT ?_
  refine brT ?_
 case' n1 =>
  refine x_len ?_
  refine br (fun hg5 => ?y5) (fun hg5 => ?n5)
  case' y5 =>
   refine brT ?_
   refine brT ?_
  case' n5 =>
   refine x_len ?_
   refine br (fun hg8 => ?y8) (fun hg8 => ?n8)
   case' y8 =>
    refine brT ?_
   case' n8 =>
    refine x_len ?_
    refine br (fun hc10 => ?y10) (fun hc10 => ?n10)
    case' n10 =>
     have h20 : f.cases.length ≤ 20 := by omega
     refine xloopR (fb := []) T.ok (Nat.le_of_ble_eq_true rfl) [1] (fun (k : Nat) => [(3, .c (.d (.sc (.int .i64 (k : Nat)))))]) (fun k => k ≤ f.cases.length ∧ (f.cases.take k).any (fun c => decide (200 < c.size)) = false ∧ f.cases.length ≤ 20) (fun k => f.cases.length - k) 0 ⟨Nat.zero_le _, ⟨rfl, h20⟩⟩ (x_ent (by first | rfl | (simp only [Tr.get]; simp; done)) trivial) ?_
     rintro k ⟨hk, hi⟩
     refine x_len ?_
     refine br (fun hc11 => ?y11) (fun hc11 => ?n11)
     case' y11 =>
      obtain ⟨p, hp⟩ := elem_at hc11
      have hkl := lt_len hp
      first | refine x_ix (by exact mapAt hp) ?_ | refine x_ixI (by exact mapAt hp) ?_
      refine x_len ?_
      refine br (fun hc12 => ?y12) (fun hc12 => ?n12)
      case' n12 =>
       first | refine x_inc ?_ | refine x_add ?_ | refine x_bin rfl rfl ?_
       refine x_rnd (k + 1) ⟨lt_len hp, any_next hp hi.1 (by simp; omega), hi.2⟩ (by (try dsimp only); have := lt_len hp; omega) rfl (x_ent (by first | rfl | (simp only [Tr.get]; simp; done)) trivial) rfl
 all_goals (refine x_ret ?_; simp only [fitsL, fits, C.asD, and_true] <;> (refine scb ?_; first | (have hh := any_hit (f := fun c : ByteArray => decide (200 < c.size)) hp (by simp; omega); unfold heavyF; rw [hh, Bool.or_true]; done) | (have hh := any_end (past_end (by assumption)) hi.1; unfold heavyF; rw [hh, Bool.or_false]; symm; simp only [decide_eq_true_eq, decide_eq_false_iff_not, Bool.not_eq_true', Bool.not_eq_false', Bool.and_eq_true, Bool.or_eq_true, Bool.or_eq_false_iff, Bool.and_eq_false_iff, beq_iff_eq, beq_eq_false_iff_ne, ne_eq, Bool.not_true, Bool.not_false, Bool.false_eq_true, Bool.true_eq_false] at * <;> omega) | (symm; unfold heavyF; simp only [decide_eq_true_eq, decide_eq_false_iff_not, Bool.not_eq_true', Bool.not_eq_false', Bool.and_eq_true, Bool.or_eq_true, Bool.or_eq_false_iff, Bool.and_eq_false_iff, beq_iff_eq, beq_eq_false_iff_ne, ne_eq, Bool.not_true, Bool.not_false, Bool.false_eq_true, Bool.true_eq_false] at * <;> omega)))
end Go.Vm
end
section
namespace Go.Vm
open Go.RowKit Go.Proofs
set_option linter.unusedVariables false
set_option linter.unusedSimpArgs false
set_option maxRecDepth 10000

theorem pairs_wide {l : List (ByteArray × ByteArray)} : ∀ x ∈ l.map pairD, x.cells.length = 2 := by
  intro x hx; obtain ⟨y, _, rfl⟩ := List.mem_map.1 hx; rfl
theorem rs_wide {l : List RefD} : ∀ x ∈ l.map rD, x.cells.length = 3 := by
  intro x hx; obtain ⟨y, _, rfl⟩ := List.mem_map.1 hx; rfl
theorem find_none {l : List (ByteArray × ByteArray)} {s : ByteArray} {k : Nat} {p : ByteArray × ByteArray} (hp : l[k]? = some p) (h : (l.take k).find? (fun p => decide (p.1 = s)) = none) (hn : ¬ p.1 = s) : (l.take (k + 1)).find? (fun p => decide (p.1 = s)) = none := by
  rw [List.take_add_one, hp, List.find?_append, h]; simp [hn]
theorem case_hit {l : List (ByteArray × ByteArray)} {s : ByteArray} {k : Nat} {p : ByteArray × ByteArray} (hp : l[k]? = some p) (h : (l.take k).find? (fun p => decide (p.1 = s)) = none) (hn : p.1 = s) : caseT l s = (p.2, true) := by
  obtain ⟨hlt, hpe⟩ := List.getElem?_eq_some_iff.1 hp
  have e : l = l.take k ++ p :: l.drop (k + 1) := by rw [← hpe, ← List.drop_eq_getElem_cons hlt, List.take_append_drop]
  unfold caseT
  rw [e, List.find?_append, h]; simp [hn]
theorem case_miss {l : List (ByteArray × ByteArray)} {s : ByteArray} {k : Nat} (hk : l.length ≤ k) (h : (l.take k).find? (fun p => decide (p.1 = s)) = none) : caseT l s = (noB, false) := by
  rw [List.take_of_length_le hk] at h
  unfold caseT; rw [h]
theorem froms_next {l : List (ByteArray × ByteArray)} {k : Nat} {p : ByteArray × ByteArray} (hp : l[k]? = some p) : froms (l.take (k + 1)) = froms (l.take k) ++ [p.1] := by
  unfold froms; rw [take_next hp]; simp
theorem froms_len {l : List (ByteArray × ByteArray)} {k n : Nat} (h : l.length ≤ n) : (froms (l.take k)).length ≤ n := by unfold froms; rw [List.length_map]; exact length_take_le h
theorem take_length {α : Type} {l : List α} {k : Nat} (h : k < l.length) : (l.take k).length = k := by rw [List.length_take]; omega
def heavyP (l : List (ByteArray × ByteArray)) : Bool := decide (20 < l.length) || l.any (fun p => decide (200 < p.1.size) || decide (200 < p.2.size))
theorem heavyP_ok {l : List (ByteArray × ByteArray)} (h : heavyP l = false) : l.length ≤ 20 := by unfold heavyP at h; simp only [Bool.or_eq_false_iff, decide_eq_false_iff_not] at h; omega
def heavyL (x : LensD) : Bool := decide (200 < x.at_.group.size) || decide (200 < x.at_.name.size) || decide (200 < x.name.size) || decide (200 < x.other.size) || heavyF x.field || heavyP x.forth || heavyP x.back
theorem heavyL_ok {x : LensD} (h : heavyL x = false) : okX x := by
  unfold heavyL at h; simp only [Bool.or_eq_false_iff] at h
  have h1 := heavyF_ok h.1.1.2
  have h2 := heavyP_ok h.1.2
  have h3 := heavyP_ok h.2
  exact ⟨by omega, by omega, by omega⟩

theorem froms_no {l : List (ByteArray × ByteArray)} {s : ByteArray} {j : Nat} {q : ByteArray × ByteArray} (hq : l[j]? = some q) (h : s ∉ froms (l.take j)) (hn : ¬ q.1 = s) : s ∉ froms (l.take (j + 1)) := by
  rw [froms_next hq, List.mem_append, List.mem_singleton]
  rintro (k | k)
  · exact h k
  · exact hn k.symm
theorem froms_mem {l : List (ByteArray × ByteArray)} {s : ByteArray} {j : Nat} {q : ByteArray × ByteArray} (hq : l[j]? = some q) (h : q.1 = s) : s ∈ froms l := by
  rw [← h]; exact List.mem_map.2 ⟨q, List.mem_of_getElem? hq, rfl⟩

set_option maxHeartbeats 1000000 in
theorem case_any (l : (List (ByteArray × ByteArray))) (s : ByteArray) (hl : l.length ≤ 1000) : Contract Try.prog 108 [.row (l.map pairD), .sc (.string s)] [.d (.sc (.string (caseT l s).1)), .d (.sc (.bool (caseT l s).2))] := by
 refine T.fn [] Try.func108 ?_
 refine x_len ?_
 refine xloopR (fb := []) T.ok (Nat.le_of_ble_eq_true rfl) [1, 8, 9] (fun (k : Nat) => [(10, .c (.d (.sc (.int .i64 (k : Nat)))))]) (fun k => k ≤ l.length ∧ (l.take k).find? (fun p => decide (p.1 = s)) = none) (fun k => l.length - k) 0 ⟨Nat.zero_le _, rfl⟩ (x_ent (by first | rfl | (simp only [Tr.get]; simp; done)) trivial) ?_
 rintro k ⟨hk, hi⟩
 refine br (fun hc1 => ?y1) (fun hc1 => ?n1)
 case' y1 =>
  obtain ⟨p, hp⟩ := elem_at hc1
  have hkl := lt_len hp
  first | refine x_ix (by exact mapAt hp) ?_ | refine x_ixI (by exact mapAt hp) ?_
  refine br (fun hc2 => ?y2) (fun hc2 => ?n2)
  case' n2 =>
   first | refine x_inc ?_ | refine x_add ?_ | refine x_bin rfl rfl ?_
   refine x_rnd (k + 1) ⟨lt_len hp, find_none hp hi (by assumption)⟩ (by (try dsimp only); have := lt_len hp; omega) rfl (x_ent (by first | rfl | (simp only [Tr.get]; simp; done)) trivial) rfl
 all_goals (refine x_ret ?_; simp only [fitsL, fits, C.asD, and_true] <;> (first | (rw [case_hit hp hi (by assumption)]; exact ⟨rfl, rfl⟩) | (rw [case_miss (past_end (by assumption)) hi]; exact ⟨rfl, rfl⟩)))

set_option maxHeartbeats 1000000 in
theorem refCase_any (l : (List (ByteArray × ByteArray))) (s : ByteArray) (hl : l.length ≤ 1000) : Contract Try.prog 48 [.row (l.map pairD), .sc (.string s)] [.d (.sc (.string (caseT l s).1)), .d (.sc (.bool (caseT l s).2))] := by
 refine T.fn [] Try.func48 ?_
 refine xloopR (fb := []) T.ok (Nat.le_of_ble_eq_true rfl) [0, 1] (fun (k : Nat) => [(6, .c (.d (.sc (.int .i64 (k : Nat)))))]) (fun k => k ≤ l.length ∧ (l.take k).find? (fun p => decide (p.1 = s)) = none) (fun k => l.length - k) 0 ⟨Nat.zero_le _, rfl⟩ (x_ent (by first | rfl | (simp only [Tr.get]; simp; done)) trivial) ?_
 rintro k ⟨hk, hi⟩
 refine x_len ?_
 refine br (fun hc1 => ?y1) (fun hc1 => ?n1)
 case' y1 =>
  obtain ⟨p, hp⟩ := elem_at hc1
  have hkl := lt_len hp
  first | refine x_ix (by exact mapAt hp) ?_ | refine x_ixI (by exact mapAt hp) ?_
  refine br (fun hc2 => ?y2) (fun hc2 => ?n2)
  case' y2 =>
   first | refine x_ix (by exact mapAt hp) ?_ | refine x_ixI (by exact mapAt hp) ?_
  case' n2 =>
   first | refine x_inc ?_ | refine x_add ?_ | refine x_bin rfl rfl ?_
   refine x_rnd (k + 1) ⟨lt_len hp, find_none hp hi (by assumption)⟩ (by (try dsimp only); have := lt_len hp; omega) rfl (x_ent (by first | rfl | (simp only [Tr.get]; simp; done)) trivial) rfl
 all_goals (refine x_ret ?_; simp only [fitsL, fits, C.asD, and_true] <;> (first | (rw [case_hit hp hi (by assumption)]; exact ⟨rfl, rfl⟩) | (rw [case_miss (past_end (by assumption)) hi]; exact ⟨rfl, rfl⟩)))

set_option maxHeartbeats 1000000 in
theorem samePairs_any (l m : (List (ByteArray × ByteArray))) (hl : l.length ≤ 1000) : Contract Try.prog 59 [.row (l.map pairD), .row (m.map pairD)] [.d (.sc (.bool (decide (l = m))))] := by
 refine T.fn [] Try.func59 ?_
 refine x_len ?_
 refine x_len ?_
 refine br (fun hc1 => ?y1) (fun hc1 => ?n1)
 case' n1 =>
  have hlen : l.length = m.length := by omega
  refine x_len ?_
  refine xloopR (fb := []) T.ok (Nat.le_of_ble_eq_true rfl) [0, 1, 12] (fun (k : Nat) => [(13, .c (.d (.sc (.int .i64 (k : Nat)))))]) (fun k => k ≤ l.length ∧ l.take k = m.take k) (fun k => l.length - k) 0 ⟨Nat.zero_le _, rfl⟩ (x_ent (by first | rfl | (simp only [Tr.get]; simp; done)) trivial) ?_
  rintro k ⟨hk, hi⟩
  refine br (fun hc2 => ?y2) (fun hc2 => ?n2)
  case' y2 =>
   obtain ⟨p, hp⟩ := elem_at hc2
   have hkl := lt_len hp
   obtain ⟨q, hq⟩ := elem_too hp hlen
   refine And.intro ⟨T.mixed, by decide +kernel⟩ ?_
   first | refine x_ix (by first | exact mapAt hp | exact mapAt hq) ?_ | refine x_ixI (by first | exact mapAt hp | exact mapAt hq) ?_
   first | refine x_ix (by first | exact mapAt hp | exact mapAt hq) ?_ | refine x_ixI (by first | exact mapAt hp | exact mapAt hq) ?_
   refine xeq_38n _ _ ?_
   refine br (fun hc3 => ?y3) (fun hc3 => ?n3)
   case' n3 =>
    first | refine x_inc ?_ | refine x_add ?_ | refine x_bin rfl rfl ?_
    refine x_rnd (k + 1) ⟨lt_len hp, take_eq_next hp hq hi (by simp_all)⟩ (by (try dsimp only); have := lt_len hp; omega) rfl (x_ent (by first | rfl | (simp only [Tr.get]; simp; done)) trivial) rfl
 all_goals (refine x_ret ?_; simp only [fitsL, fits, C.asD, and_true] <;> (refine scb ?_; first | exact (decide_eq_false (fun e => by simp_all)).symm | exact (decide_eq_false (ne_at hp hq (fun e => by simp_all))).symm | exact (decide_eq_true (take_eq_end hlen (past_end (by assumption)) hi)).symm))

set_option maxHeartbeats 1000000 in
theorem refSamePairs_any (l m : (List (ByteArray × ByteArray))) (hl : l.length ≤ 1000) : Contract Try.prog 61 [.row (l.map pairD), .row (m.map pairD)] [.d (.sc (.bool (decide (l = m))))] := by
 refine T.fn [] Try.func61 ?_
 refine x_len ?_
 refine x_len ?_
 refine br (fun hc1 => ?y1) (fun hc1 => ?n1)
 case' n1 =>
  have hlen : l.length = m.length := by omega
  refine xloopR (fb := []) T.ok (Nat.le_of_ble_eq_true rfl) [0, 1] (fun (k : Nat) => [(5, .c (.d (.sc (.int .i64 (k : Nat)))))]) (fun k => k ≤ l.length ∧ l.take k = m.take k) (fun k => l.length - k) 0 ⟨Nat.zero_le _, rfl⟩ (x_ent (by first | rfl | (simp only [Tr.get]; simp; done)) trivial) ?_
  rintro k ⟨hk, hi⟩
  refine x_len ?_
  refine br (fun hc2 => ?y2) (fun hc2 => ?n2)
  case' y2 =>
   obtain ⟨p, hp⟩ := elem_at hc2
   have hkl := lt_len hp
   obtain ⟨q, hq⟩ := elem_too hp hlen
   refine And.intro ⟨T.mixed, by decide +kernel⟩ ?_
   first | refine x_ix (by first | exact mapAt hp | exact mapAt hq) ?_ | refine x_ixI (by first | exact mapAt hp | exact mapAt hq) ?_
   first | refine x_ix (by first | exact mapAt hp | exact mapAt hq) ?_ | refine x_ixI (by first | exact mapAt hp | exact mapAt hq) ?_
   refine xeq_38n _ _ ?_
   refine br (fun hc3 => ?y3) (fun hc3 => ?n3)
   case' n3 =>
    first | refine x_inc ?_ | refine x_add ?_ | refine x_bin rfl rfl ?_
    refine x_rnd (k + 1) ⟨lt_len hp, take_eq_next hp hq hi (by simp_all)⟩ (by (try dsimp only); have := lt_len hp; omega) rfl (x_ent (by first | rfl | (simp only [Tr.get]; simp; done)) trivial) rfl
 all_goals (refine x_ret ?_; simp only [fitsL, fits, C.asD, and_true] <;> (refine scb ?_; first | exact (decide_eq_false (fun e => by simp_all)).symm | exact (decide_eq_false (ne_at hp hq (fun e => by simp_all))).symm | exact (decide_eq_true (take_eq_end hlen (past_end (by assumption)) hi)).symm))

set_option maxHeartbeats 1000000 in
theorem froms_any (l : (List (ByteArray × ByteArray))) (hl : l.length ≤ 1000) : Contract Try.prog 126 [.row (l.map pairD)] [.d (.row ((froms l).map strD))] := by
 refine T.fn [] Try.func126 ?_
 refine x_len ?_
 refine x_make ?_
 refine x_len ?_
 refine xloopR (fb := []) T.ok (Nat.le_of_ble_eq_true rfl) [9, 10] (fun (s : Nat × Nat × List ByteArray) => [(11, .c (.d (.sc (.int .i64 ((s.1 : Nat) : Int))))), (3, .c (.own 8 9 (s.2.2.map strD)))]) (fun s => s.1 ≤ l.length ∧ s.2.2 = froms (l.take s.1)) (fun s => l.length - s.1) (0, 8, []) ⟨Nat.zero_le _, rfl⟩ (x_ent (by first | rfl | (simp only [Tr.get]; simp; done)) (x_ent (by first | rfl | (simp only [Tr.get]; simp; done)) trivial)) ?_
 rintro s ⟨hk, hA⟩
 have hAl : s.2.2.length ≤ 1000 := by rw [hA]; exact froms_len hl
 refine br (fun hc1 => ?y1) (fun hc1 => ?n1)
 case' y1 =>
  obtain ⟨p, hp⟩ := elem_at hc1
  have hkl := lt_len hp
  first | refine x_ix (by exact mapAt hp) ?_ | refine x_ixI (by exact mapAt hp) ?_
  first | refine x_app ?_ (by first | exact strs_wide | exact pairs_wide | exact rs_wide | exact fD_wide | (simp [D.cells])) (hz := by first | exact snoc_map (g := strD) | exact one_map (g := strD) | rfl) | refine x_appN ?_ (by first | exact strs_wide | exact pairs_wide | exact rs_wide | exact fD_wide | (simp [D.cells]))
  first | refine x_bin (pr_add1 (by omega)) rfl ?_ | refine x_inc ?_ | refine x_add ?_ | refine x_bin rfl rfl ?_
  refine x_rnd (s.1 + 1, 0, s.2.2 ++ [p.1]) ⟨lt_len hp, by rw [hA]; exact (froms_next hp).symm⟩ (by (try dsimp only); have := lt_len hp; (try dsimp only); omega) rfl (x_ent (by first | rfl | (simp only [Tr.get]; simp; done)) (x_ent (by first | rfl | (simp only [Tr.get]; simp; done)) trivial)) rfl
 all_goals (refine x_ret ?_; simp only [fitsL, fits, C.asD, and_true] <;> (refine row_inj ?_; rw [hA, List.take_of_length_le (past_end (by assumption))]))

set_option maxHeartbeats 1000000 in
theorem refFroms_any (l : (List (ByteArray × ByteArray))) (hl : l.length ≤ 1000) : Contract Try.prog 104 [.row (l.map pairD)] [.d (.row ((froms l).map strD))] := by
 refine T.fn [] Try.func104 ?_
 refine xloopR (fb := []) T.ok (Nat.le_of_ble_eq_true rfl) [0] (fun (s : Nat × Nat × List ByteArray) => [(4, .c (.d (.sc (.int .i64 ((s.1 : Nat) : Int))))), (3, .c (.own 5 9 (s.2.2.map strD)))]) (fun s => s.1 ≤ l.length ∧ s.2.2 = froms (l.take s.1)) (fun s => l.length - s.1) (0, 5, []) ⟨Nat.zero_le _, rfl⟩ (x_ent (by first | rfl | (simp only [Tr.get]; simp; done)) (x_ent (by first | rfl | (simp only [Tr.get]; simp; done)) trivial)) ?_
 rintro s ⟨hk, hA⟩
 have hAl : s.2.2.length ≤ 1000 := by rw [hA]; exact froms_len hl
 refine x_len ?_
 refine br (fun hc1 => ?y1) (fun hc1 => ?n1)
 case' y1 =>
  obtain ⟨p, hp⟩ := elem_at hc1
  have hkl := lt_len hp
  first | refine x_ix (by exact mapAt hp) ?_ | refine x_ixI (by exact mapAt hp) ?_
  first | refine x_app ?_ (by first | exact strs_wide | exact pairs_wide | exact rs_wide | exact fD_wide | (simp [D.cells])) (hz := by first | exact snoc_map (g := strD) | exact one_map (g := strD) | rfl) | refine x_appN ?_ (by first | exact strs_wide | exact pairs_wide | exact rs_wide | exact fD_wide | (simp [D.cells]))
  first | refine x_bin (pr_add1 (by omega)) rfl ?_ | refine x_inc ?_ | refine x_add ?_ | refine x_bin rfl rfl ?_
  refine x_rnd (s.1 + 1, 0, s.2.2 ++ [p.1]) ⟨lt_len hp, by rw [hA]; exact (froms_next hp).symm⟩ (by (try dsimp only); have := lt_len hp; (try dsimp only); omega) rfl (x_ent (by first | rfl | (simp only [Tr.get]; simp; done)) (x_ent (by first | rfl | (simp only [Tr.get]; simp; done)) trivial)) rfl
 all_goals (refine x_ret ?_; simp only [fitsL, fits, C.asD, and_true] <;> (refine row_inj ?_; rw [hA, List.take_of_length_le (past_end (by assumption))]))

set_option maxHeartbeats 1000000 in
theorem heavyPairs_any (l : (List (ByteArray × ByteArray))) : Contract Try.prog 43 [.row (l.map pairD)] [.d (.sc (.bool (heavyP l)))] := by
 refine T.fn [] Try.func43 ?_
 refine x_len ?_
 refine br (fun hc1 => ?y1) (fun hc1 => ?n1)
 case' n1 =>
  have h20 : l.length ≤ 20 := by omega
  refine xloopR (fb := []) T.ok (Nat.le_of_ble_eq_true rfl) [0] (fun (k : Nat) => [(3, .c (.d (.sc (.int .i64 (k : Nat)))))]) (fun k => k ≤ l.length ∧ (l.take k).any (fun p => decide (200 < p.1.size) || decide (200 < p.2.size)) = false ∧ l.length ≤ 20) (fun k => l.length - k) 0 ⟨Nat.zero_le _, ⟨rfl, h20⟩⟩ (x_ent (by first | rfl | (simp only [Tr.get]; simp; done)) trivial) ?_
  rintro k ⟨hk, hi⟩
  refine x_len ?_
  refine br (fun hc2 => ?y2) (fun hc2 => ?n2)
  case' y2 =>
   obtain ⟨p, hp⟩ := elem_at hc2
   have hkl := lt_len hp
   first | refine x_ix (by exact mapAt hp) ?_ | refine x_ixI (by exact mapAt hp) ?_
   refine x_len ?_
   refine br (fun hg3 => ?y3) (fun hg3 => ?n3)
   case' y3 =>
    refine brT ?_
   case' n3 =>
    first | refine x_ix (by exact mapAt hp) ?_ | refine x_ixI (by exact mapAt hp) ?_
    refine x_len ?_
    refine br (fun hc5 => ?y5) (fun hc5 => ?n5)
    case' n5 =>
     first | refine x_inc ?_ | refine x_add ?_ | refine x_bin rfl rfl ?_
     refine x_rnd (k + 1) ⟨lt_len hp, any_next hp hi.1 (by simp; omega), hi.2⟩ (by (try dsimp only); have := lt_len hp; omega) rfl (x_ent (by first | rfl | (simp only [Tr.get]; simp; done)) trivial) rfl
 all_goals (refine x_ret ?_; simp only [fitsL, fits, C.asD, and_true] <;> (refine scb ?_; first | (have hh := any_hit (f := fun p : ByteArray × ByteArray => decide (200 < p.1.size) || decide (200 < p.2.size)) hp (by simp; omega); unfold heavyP; rw [hh, Bool.or_true]; done) | (have hh := any_end (past_end (by assumption)) hi.1; unfold heavyP; rw [hh, Bool.or_false]; symm; simp only [decide_eq_true_eq, decide_eq_false_iff_not, Bool.not_eq_true', Bool.not_eq_false', Bool.and_eq_true, Bool.or_eq_true, Bool.or_eq_false_iff, Bool.and_eq_false_iff, beq_iff_eq, beq_eq_false_iff_ne, ne_eq, Bool.not_true, Bool.not_false, Bool.false_eq_true, Bool.true_eq_false] at * <;> omega) | (symm; unfold heavyP; simp only [decide_eq_true_eq, decide_eq_false_iff_not, Bool.not_eq_true', Bool.not_eq_false', Bool.and_eq_true, Bool.or_eq_true, Bool.or_eq_false_iff, Bool.and_eq_false_iff, beq_iff_eq, beq_eq_false_iff_ne, ne_eq, Bool.not_true, Bool.not_false, Bool.false_eq_true, Bool.true_eq_false] at * <;> omega)))

set_option maxHeartbeats 1000000 in
theorem refTable_any (l m : (List (ByteArray × ByteArray))) (hl : l.length ≤ 1000) (hm : m.length ≤ 1000) : Contract Try.prog 49 [.row (l.map pairD), .row (m.map pairD)] [.d (.sc (.bool (rightT l m)))] := by
 refine T.fn [] Try.func49 ?_
 refine x_len ?_
 refine br (fun hg1 => ?y1) (fun hg1 => ?n1)
 case' y1 =>
  refine brT ?_
 case' n1 =>
  refine x_len ?_
  refine br (fun hc3 => ?y3) (fun hc3 => ?n3)
  case' n3 =>
   have hlo : 1 ≤ l.length := by omega
   have hhi : l.length ≤ 6 := by omega
   refine xloopR (fb := []) T.ok (Nat.le_of_ble_eq_true rfl) [0, 1] (fun (k : Nat) => [(5, .c (.d (.sc (.int .i64 (k : Nat)))))]) (fun k => k ≤ l.length ∧ okT l m k = true ∧ 1 ≤ l.length ∧ l.length ≤ 6) (fun k => l.length - k) 0 ⟨Nat.zero_le _, ⟨okT_zero l m, hlo, hhi⟩⟩ (x_ent (by first | rfl | (simp only [Tr.get]; simp; done)) trivial) ?_
   rintro k ⟨hk, hi⟩
   refine x_len ?_
   refine br (fun hc4 => ?y4) (fun hc4 => ?n4)
   case' y4 =>
    obtain ⟨p, hp⟩ := elem_at hc4
    have hkl := lt_len hp
    refine And.intro ⟨T.mixed, by decide +kernel⟩ ?_
    first | refine x_ix (by exact mapAt hp) ?_ | refine x_ixI (by exact mapAt hp) ?_
    refine x_call T.en_50 (refName_any _) ?_
    refine br (fun hg5 => ?y5) (fun hg5 => ?n5)
    case' y5 =>
     refine brT ?_
     refine brT ?_
    case' n5 =>
     first | refine x_bnd ?_ | refine x_bndI ?_
     refine x_row ?_ (by first | exact strs_wide | exact pairs_wide | exact rs_wide | exact fD_wide | (simp [D.cells])) (hy := by first | exact take_fold | rfl)
     refine x_call T.en_104 (refFroms_any _ (by first | assumption | exact hx0.2.1 | exact hx0.2.2 | (rw [List.length_take]; omega))) ?_
     first | refine x_ix (by exact mapAt hp) ?_ | refine x_ixI (by exact mapAt hp) ?_
     refine x_call T.en_103 (refHas_any _ _ (by first | (have := froms_len (k := k) hl; omega) | (have : (froms m).length ≤ 1000 := by unfold froms; rw [List.length_map]; exact hm); omega)) ?_
     refine br (fun hg8 => ?y8) (fun hg8 => ?n8)
     case' y8 =>
      refine brT ?_
     case' n8 =>
      refine x_call T.en_104 (refFroms_any _ (by first | assumption | exact hx0.2.1 | exact hx0.2.2 | (rw [List.length_take]; omega))) ?_
      first | refine x_ix (by exact mapAt hp) ?_ | refine x_ixI (by exact mapAt hp) ?_
      refine x_call T.en_103 (refHas_any _ _ (by first | (have := froms_len (k := k) hl; omega) | (have : (froms m).length ≤ 1000 := by unfold froms; rw [List.length_map]; exact hm); omega)) ?_
      refine br (fun hc10 => ?y10) (fun hc10 => ?n10)
      case' n10 =>
       first | refine x_inc ?_ | refine x_add ?_ | refine x_bin rfl rfl ?_
       refine x_rnd (k + 1) ⟨lt_len hp, okT_next hp hi.1 (by simp_all) (by simp_all) (by simp_all), hi.2⟩ (by (try dsimp only); have := lt_len hp; omega) rfl (x_ent (by first | rfl | (simp only [Tr.get]; simp; done)) trivial) rfl
 all_goals (refine x_ret ?_; simp only [fitsL, fits, C.asD, and_true] <;> (refine scb ?_; first | (refine (rightT_short ?_).symm; omega; done) | (refine (rightT_long ?_).symm; omega; done) | exact (rightT_yes hi.2.1 hi.2.2 (past_end (by assumption)) hi.1).symm | (refine (rightT_no hp ?_).symm; simp_all; done)))

set_option maxHeartbeats 1000000 in
theorem rightTable_any (l m : (List (ByteArray × ByteArray))) (hl : l.length ≤ 1000) (hm : m.length ≤ 1000) : Contract Try.prog 107 [.row (l.map pairD), .row (m.map pairD)] [.d (.sc (.bool (rightT l m)))] := by
 refine T.fn [] Try.func107 ?_
 refine x_len ?_
 refine br (fun hg1 => ?y1) (fun hg1 => ?n1)
 case' y1 =>
  refine brT ?_
 case' n1 =>
  refine x_len ?_
  refine br (fun hc3 => ?y3) (fun hc3 => ?n3)
  case' n3 =>
   have hlo : 1 ≤ l.length := by omega
   have hhi : l.length ≤ 6 := by omega
   refine x_len ?_
   refine xloopR (fb := []) T.ok (Nat.le_of_ble_eq_true rfl) [0, 1, 19, 20] (fun (k : Nat) => [(21, .c (.d (.sc (.int .i64 (k : Nat)))))]) (fun k => k ≤ l.length ∧ okT l m k = true ∧ 1 ≤ l.length ∧ l.length ≤ 6) (fun k => l.length - k) 0 ⟨Nat.zero_le _, ⟨okT_zero l m, hlo, hhi⟩⟩ (x_ent (by first | rfl | (simp only [Tr.get]; simp; done)) trivial) ?_
   rintro k ⟨hk, hi⟩
   refine br (fun hc4 => ?y4) (fun hc4 => ?n4)
   case' y4 =>
    obtain ⟨p, hp⟩ := elem_at hc4
    have hkl := lt_len hp
    first | refine x_ix (by first | exact mapAt hp | exact mapAt hq) ?_ | refine x_ixI (by first | exact mapAt hp | exact mapAt hq) ?_
    refine x_call T.en_54 (name_any _) ?_
    refine br (fun hc5 => ?y5) (fun hc5 => ?n5)
    case' n5 =>
     first | refine x_bnd ?_ | refine x_bndI ?_
     refine x_row ?_ (by first | exact strs_wide | exact pairs_wide | exact rs_wide | exact fD_wide | (simp [D.cells])) (hy := by first | exact take_fold | rfl)
     refine x_len ?_
     refine xloopR (fb := []) T.ok (Nat.le_of_ble_eq_true rfl) [0, 1, 6, 19, 20, 21, 32, 33] (fun (j : Nat) => [(34, .c (.d (.sc (.int .i64 (j : Nat)))))]) (fun j => j ≤ (l.take k).length ∧ p.1 ∉ froms ((l.take k).take j)) (fun j => (l.take k).length - j) 0 ⟨Nat.zero_le _, by simp [froms]⟩ (x_ent (by first | rfl | (simp only [Tr.get]; simp; done)) trivial) ?_
     rintro j ⟨hjk, hj⟩
     have htl : (l.take k).length ≤ 6 := by rw [List.length_take]; omega
     refine br (fun hc6 => ?y6) (fun hc6 => ?n6)
     case' y6 =>
      obtain ⟨q, hq⟩ := elem_at hc6
      have hkl2 := lt_len hq
      first | refine x_ix (by first | exact mapAt hp | exact mapAt hq) ?_ | refine x_ixI (by first | exact mapAt hp | exact mapAt hq) ?_
      refine br (fun hc7 => ?y7) (fun hc7 => ?n7)
      case' n7 =>
       first | refine x_inc ?_ | refine x_add ?_ | refine x_bin rfl rfl ?_
       refine x_rnd (j + 1) ⟨lt_len hq, froms_no hq hj (by assumption)⟩ (by (try dsimp only); have := lt_len hq; omega) rfl (x_ent (by first | rfl | (simp only [Tr.get]; simp; done)) trivial) rfl
     case' n6 =>
      have hjn : ¬ p.1 ∈ froms (l.take k) := by have h0 := past_end hc6; rw [List.take_of_length_le h0] at hj; exact hj
      refine x_call T.en_108 (case_any _ _ hm) ?_
      refine br (fun hc8 => ?y8) (fun hc8 => ?n8)
      case' n8 =>
       first | refine x_inc ?_ | refine x_add ?_ | refine x_bin rfl rfl ?_
       refine x_rnd (k + 1) ⟨lt_len hp, okT_next hp hi.1 (by simp_all) hjn (by have := caseT_some (t := m) (s := p.2); simp_all), hi.2⟩ (by (try dsimp only); have := lt_len hp; omega) rfl (x_ent (by first | rfl | (simp only [Tr.get]; simp; done)) trivial) rfl
 all_goals (refine x_ret ?_; simp only [fitsL, fits, C.asD, and_true] <;> (refine scb ?_; first | (refine (rightT_short ?_).symm; omega; done) | (refine (rightT_long ?_).symm; omega; done) | exact (rightT_yes hi.2.1 hi.2.2 (past_end (by assumption)) hi.1).symm | (refine (rightT_no hp ?_).symm; have hm1 := froms_mem hq (by assumption); simp [hm1]; done) | (refine (rightT_no hp ?_).symm; have := caseT_some (t := m) (s := p.2); simp_all; done)))
end Go.Vm
end
section
namespace Go.Vm
open Go.RowKit Go.Proofs
set_option linter.unusedVariables false
set_option linter.unusedSimpArgs false
set_option maxRecDepth 10000

set_option maxHeartbeats 1000000 in
theorem lensSame_any (x y : LensD) (hx0 : okX x) : Contract Try.prog 10 [lD x, lD y] [.d (.sc (.bool (decide (x = y))))] := by
 refine T.fn [] Try.func10 ?_
 refine br (fun hg1 => ?y1) (fun hg1 => ?n1)
 case' y1 =>
  first | refine xeq_23e _ _ ?_ | refine xeq_23e _ noRef ?_ | refine xeq_23e noRef _ ?_
  refine br (fun hg2 => ?y2) (fun hg2 => ?n2)
  case' y2 =>
   refine br (fun hg3 => ?y3) (fun hg3 => ?n3)
   case' y3 =>
    refine br (fun hg4 => ?y4) (fun hg4 => ?n4)
    case' y4 =>
     refine br (fun hg5 => ?y5) (fun hg5 => ?n5)
     case' y5 =>
      refine x_call T.en_58 (fieldSame_any _ _ (by first | assumption | exact hx0.1)) ?_
      refine br (fun hg6 => ?y6) (fun hg6 => ?n6)
      case' y6 =>
       refine x_call T.en_59 (samePairs_any _ _ (by first | assumption | exact hx0.2.1 | exact hx0.2.2)) ?_
       refine br (fun hg7 => ?y7) (fun hg7 => ?n7)
       case' y7 =>
        refine x_call T.en_59 (samePairs_any _ _ (by first | assumption | exact hx0.2.1 | exact hx0.2.2)) ?_
      case' n6 =>
       refine brF ?_
     case' n5 =>
      refine brF ?_
      refine brF ?_
    case' n4 =>
     refine brF ?_
     refine brF ?_
     refine brF ?_
   case' n3 =>
    refine brF ?_
    refine brF ?_
    refine brF ?_
    refine brF ?_
  case' n2 =>
   refine brF ?_
   refine brF ?_
   refine brF ?_
   refine brF ?_
   refine brF ?_
 case' n1 =>
  refine brF ?_
  refine brF ?_
  refine brF ?_
  refine brF ?_
  refine brF ?_
  refine brF ?_
 all_goals (refine x_ret ?_; simp only [fitsL, fits, C.asD, and_true] <;> (refine scb ?_; clear hx0; cases x; cases y; simp_all))

set_option maxHeartbeats 1000000 in
theorem refLensSame_any (x y : LensD) (hx0 : okX x) : Contract Try.prog 11 [lD x, lD y] [.d (.sc (.bool (decide (x = y))))] := by
 refine T.fn [] Try.func11 ?_
 refine br (fun hg1 => ?y1) (fun hg1 => ?n1)
 case' y1 =>
  first | refine xeq_23e _ _ ?_ | refine xeq_23e _ noRef ?_ | refine xeq_23e noRef _ ?_
  refine br (fun hg2 => ?y2) (fun hg2 => ?n2)
  case' y2 =>
   refine br (fun hg3 => ?y3) (fun hg3 => ?n3)
   case' y3 =>
    refine br (fun hg4 => ?y4) (fun hg4 => ?n4)
    case' y4 =>
     refine br (fun hg5 => ?y5) (fun hg5 => ?n5)
     case' y5 =>
      refine x_call T.en_60 (refFieldSame_any _ _ (by first | assumption | exact hx0.1)) ?_
      refine br (fun hg6 => ?y6) (fun hg6 => ?n6)
      case' y6 =>
       refine x_call T.en_61 (refSamePairs_any _ _ (by first | assumption | exact hx0.2.1 | exact hx0.2.2)) ?_
       refine br (fun hg7 => ?y7) (fun hg7 => ?n7)
       case' y7 =>
        refine x_call T.en_61 (refSamePairs_any _ _ (by first | assumption | exact hx0.2.1 | exact hx0.2.2)) ?_
      case' n6 =>
       refine brF ?_
     case' n5 =>
      refine brF ?_
      refine brF ?_
    case' n4 =>
     refine brF ?_
     refine brF ?_
     refine brF ?_
   case' n3 =>
    refine brF ?_
    refine brF ?_
    refine brF ?_
    refine brF ?_
  case' n2 =>
   refine brF ?_
   refine brF ?_
   refine brF ?_
   refine brF ?_
   refine brF ?_
 case' n1 =>
  refine brF ?_
  refine brF ?_
  refine brF ?_
  refine brF ?_
  refine brF ?_
  refine brF ?_
 all_goals (refine x_ret ?_; simp only [fitsL, fits, C.asD, and_true] <;> (refine scb ?_; clear hx0; cases x; cases y; simp_all))
end Go.Vm
end
section
namespace Go.Vm
open Go.RowKit Go.Proofs
set_option linter.unusedVariables false
set_option linter.unusedSimpArgs false
set_option maxRecDepth 10000

theorem parts_a {x : LensD} (h : x.kind = 1 ∨ x.kind = 5) : partsL x = (⟨x.kind, x.at_, x.name, noB, 0, noField, [], []⟩, true) := by unfold partsL; rw [if_pos h]
theorem parts_b {x : LensD} (h : x.kind = 2 ∨ x.kind = 3) : partsL x = (⟨x.kind, noRef, noB, noB, 0, x.field, [], []⟩, true) := by unfold partsL; rw [if_neg (by omega), if_pos h]
theorem parts_c {x : LensD} (h : x.kind = 4) : partsL x = (⟨x.kind, x.at_, noB, noB, 0, noField, [], []⟩, true) := by unfold partsL; rw [if_neg (by omega), if_neg (by omega), if_pos h]
theorem parts_d {x : LensD} (h : x.kind = 6 ∨ x.kind = 9) : partsL x = (⟨x.kind, x.at_, x.name, x.other, x.factor, noField, [], []⟩, true) := by unfold partsL; rw [if_neg (by omega), if_neg (by omega), if_neg (by omega), if_pos h]
theorem parts_e {x : LensD} (h : x.kind = 7 ∨ x.kind = 10) : partsL x = (⟨x.kind, x.at_, noB, x.other, 0, noField, [], []⟩, true) := by unfold partsL; rw [if_neg (by omega), if_neg (by omega), if_neg (by omega), if_neg (by omega), if_pos h]
theorem parts_f {x : LensD} (h : x.kind = 8) : partsL x = (⟨x.kind, x.at_, x.name, x.other, 0, noField, x.forth, x.back⟩, true) := by unfold partsL; rw [if_neg (by omega), if_neg (by omega), if_neg (by omega), if_neg (by omega), if_neg (by omega), if_pos h]
theorem parts_g {x : LensD} (h : ¬ x.kind = 1 ∧ ¬ x.kind = 2 ∧ ¬ x.kind = 3 ∧ ¬ x.kind = 4 ∧ ¬ x.kind = 5 ∧ ¬ x.kind = 6 ∧ ¬ x.kind = 7 ∧ ¬ x.kind = 8 ∧ ¬ x.kind = 9 ∧ ¬ x.kind = 10) : partsL x = (noLens, false) := by unfold partsL; rw [if_neg (by omega), if_neg (by omega), if_neg (by omega), if_neg (by omega), if_neg (by omega), if_neg (by omega)]

set_option maxHeartbeats 1000000 in
theorem lensOwn_any (x : LensD) (hx0 : okX x) : Contract Try.prog 17 [lD x] [.d (lD x)] := by
 refine T.fn [] Try.func17 ?_
 have hl1 := hx0.2.1
 have hl2 := hx0.2.2
 refine x_call T.en_64 (fieldOwn_any _ (by first | assumption | exact hx0.1)) ?_
 first | refine x_app ?_ (by first | exact strs_wide | exact pairs_wide | exact rs_wide | exact fD_wide | (simp [D.cells])) | refine x_appN ?_ (by first | exact strs_wide | exact pairs_wide | exact rs_wide | exact fD_wide | (simp [D.cells]))
 first | refine x_app ?_ (by first | exact strs_wide | exact pairs_wide | exact rs_wide | exact fD_wide | (simp [D.cells])) | refine x_appN ?_ (by first | exact strs_wide | exact pairs_wide | exact rs_wide | exact fD_wide | (simp [D.cells]))
 all_goals (refine x_ret ?_; simp only [fitsL, fits, C.asD, and_true] <;> (rfl))

set_option maxHeartbeats 1000000 in
theorem refLensHeavy_any (x : LensD) : Contract Try.prog 7 [lD x] [.d (.sc (.bool (heavyL x)))] := by
 refine T.fn [] Try.func7 ?_
 refine x_len ?_
 refine br (fun hg1 => ?y1) (fun hg1 => ?n1)
 case' y1 =>
  refine brT ?_
  refine brT ?_
  refine brT ?_
  refine brT ?_
  refine brT ?_
 case' n1 =>
  refine x_len ?_
  refine br (fun hg7 => ?y7) (fun hg7 => ?n7)
  case' y7 =>
   refine brT ?_
   refine brT ?_
   refine brT ?_
   refine brT ?_
  case' n7 =>
   refine x_len ?_
   refine br (fun hg12 => ?y12) (fun hg12 => ?n12)
   case' y12 =>
    refine brT ?_
    refine brT ?_
    refine brT ?_
   case' n12 =>
    refine x_len ?_
    refine br (fun hg16 => ?y16) (fun hg16 => ?n16)
    case' y16 =>
     refine brT ?_
     refine brT ?_
    case' n16 =>
     refine x_call T.en_42 (refFieldHeavy_any _) ?_
     refine br (fun hg19 => ?y19) (fun hg19 => ?n19)
     case' y19 =>
      refine brT ?_
     case' n19 =>
      refine x_call T.en_43 (heavyPairs_any _) ?_
      refine br (fun hg21 => ?y21) (fun hg21 => ?n21)
      case' n21 =>
       refine x_call T.en_43 (heavyPairs_any _) ?_
 all_goals (refine x_ret ?_; simp only [fitsL, fits, C.asD, and_true] <;> (refine scb ?_; symm; unfold heavyL; first | (simp_all; done) | (simp_all <;> omega)))

set_option maxHeartbeats 1000000 in
theorem parts_any (x : LensD) (hx0 : okX x) : Contract Try.prog 51 [lD x] [.d (lD (partsL x).1), .d (.sc (.bool ((partsL x).2)))] := by
 refine T.fn [] Try.func51 ?_
 refine br (fun hc1 => ?y1) (fun hc1 => ?n1)
 case' y1 =>
  have hkkind_1 := hc1
  refine brT ?_
  refine And.intro ⟨T.mixed, by decide +kernel⟩ ?_
 case' n1 =>
  have hnkind_1 := hc1
  refine br (fun hc3 => ?y3) (fun hc3 => ?n3)
  case' y3 =>
   have hkkind_5 := hc3
   refine And.intro ⟨T.mixed, by decide +kernel⟩ ?_
  case' n3 =>
   have hnkind_5 := hc3
   refine br (fun hc4 => ?y4) (fun hc4 => ?n4)
   case' y4 =>
    have hkkind_2 := hc4
    refine brT ?_
   case' n4 =>
    have hnkind_2 := hc4
    refine br (fun hc6 => ?y6) (fun hc6 => ?n6)
    case' y6 =>
     have hkkind_3 := hc6
    case' n6 =>
     have hnkind_3 := hc6
     refine br (fun hc7 => ?y7) (fun hc7 => ?n7)
     case' y7 =>
      have hkkind_4 := hc7
     case' n7 =>
      have hnkind_4 := hc7
      refine br (fun hc8 => ?y8) (fun hc8 => ?n8)
      case' y8 =>
       have hkkind_6 := hc8
       refine brT ?_
       refine And.intro ⟨T.mixed, by decide +kernel⟩ ?_
      case' n8 =>
       have hnkind_6 := hc8
       refine br (fun hc10 => ?y10) (fun hc10 => ?n10)
       case' y10 =>
        have hkkind_9 := hc10
        refine And.intro ⟨T.mixed, by decide +kernel⟩ ?_
       case' n10 =>
        have hnkind_9 := hc10
        refine br (fun hc11 => ?y11) (fun hc11 => ?n11)
        case' y11 =>
         have hkkind_7 := hc11
         refine brT ?_
         refine And.intro ⟨T.mixed, by decide +kernel⟩ ?_
        case' n11 =>
         have hnkind_7 := hc11
         refine br (fun hc13 => ?y13) (fun hc13 => ?n13)
         case' y13 =>
          have hkkind_10 := hc13
          refine And.intro ⟨T.mixed, by decide +kernel⟩ ?_
         case' n13 =>
          have hnkind_10 := hc13
          refine br (fun hc14 => ?y14) (fun hc14 => ?n14)
          case' y14 =>
           have hkkind_8 := hc14
           refine And.intro ⟨T.mixed, by decide +kernel⟩ ?_
           refine And.intro ⟨T.mixed, by decide +kernel⟩ ?_
          case' n14 =>
           have hnkind_8 := hc14
 all_goals (refine x_ret ?_; simp only [fitsL, fits, C.asD, and_true] <;> (first | (rw [parts_a (by omega)]; exact ⟨by kernel_rfl, by kernel_rfl⟩) | (rw [parts_b (by omega)]; exact ⟨by kernel_rfl, by kernel_rfl⟩) | (rw [parts_c (by omega)]; exact ⟨by kernel_rfl, by kernel_rfl⟩) | (rw [parts_d (by omega)]; exact ⟨by kernel_rfl, by kernel_rfl⟩) | (rw [parts_e (by omega)]; exact ⟨by kernel_rfl, by kernel_rfl⟩) | (rw [parts_f (by omega)]; exact ⟨by kernel_rfl, by kernel_rfl⟩) | (rw [parts_g (by omega)]; exact ⟨by kernel_rfl, by kernel_rfl⟩)))

set_option maxHeartbeats 1000000 in
theorem rightTables_any (x : LensD) (hx0 : okX x) : Contract Try.prog 57 [lD x] [.d (.sc (.bool (rightTb x)))] := by
 refine T.fn [] Try.func57 ?_
 refine x_call T.en_54 (name_any _) ?_
 refine br (fun hg1 => ?y1) (fun hg1 => ?n1)
 case' y1 =>
  refine brT ?_
  refine brT ?_
 case' n1 =>
  refine x_call T.en_107 (rightTable_any _ _ (by first | exact hx0.2.1 | exact hx0.2.2) (by first | exact hx0.2.1 | exact hx0.2.2)) ?_
  refine br (fun hg4 => ?y4) (fun hg4 => ?n4)
  case' y4 =>
   refine brT ?_
  case' n4 =>
   refine x_call T.en_107 (rightTable_any _ _ (by first | exact hx0.2.1 | exact hx0.2.2) (by first | exact hx0.2.1 | exact hx0.2.2)) ?_
   refine br (fun hc6 => ?y6) (fun hc6 => ?n6)
   case' n6 =>
    refine x_call T.en_108 (case_any _ _ (by first | assumption | exact hx0.2.1 | exact hx0.2.2)) ?_
    refine br (fun hg7 => ?y7) (fun hg7 => ?n7)
    case' y7 =>
     refine brT ?_
    case' n7 =>
     refine br (fun hc9 => ?y9) (fun hc9 => ?n9)
     case' n9 =>
      refine x_call T.en_108 (case_any _ _ (by first | assumption | exact hx0.2.1 | exact hx0.2.2)) ?_
      refine br (fun hg10 => ?y10) (fun hg10 => ?n10)
 all_goals (refine x_ret ?_; simp only [fitsL, fits, C.asD, and_true] <;> (refine scb ?_; unfold rightTb; first | (simp_all; done) | (rcases hcf : caseT x.forth x.name with ⟨a, b⟩; rcases hcb : caseT x.back x.other with ⟨c, d⟩; simp_all; done)))
end Go.Vm
end
section
namespace Go.Vm
open Go.RowKit Go.Proofs
set_option linter.unusedVariables false
set_option linter.unusedSimpArgs false
set_option maxRecDepth 10000

set_option maxHeartbeats 1000000 in
theorem lensRight_any (x : LensD) (hx0 : okX x) : Contract Try.prog 9 [lD x] [.d (.sc (.bool (rightL x)))] := by
 refine T.fn [] Try.func9 ?_
 refine x_call T.en_51 (parts_any _ hx0) ?_
 refine And.intro (fun hg1 => ?y1) (fun hg1 => ?n1)
 case' y1 =>
  refine brT ?_
 case' n1 =>
  refine x_call T.en_10 (lensSame_any _ _ (by first | assumption | exact hx0)) ?_
  refine And.intro (fun hc3 => ?y3) (fun hc3 => ?n3)
  case' n3 =>
   refine And.intro (fun hg4 => ?y4) (fun hg4 => ?n4)
   case' y4 =>
    have hkkind_2 := hg4
    refine brT ?_
    refine x_call T.en_52 (fieldRight_any _ (by first | assumption | exact hx0.1)) ?_
   case' n4 =>
    have hnkind_2 := hg4
    refine And.intro (fun hc6 => ?y6) (fun hc6 => ?n6)
    case' y6 =>
     have hkkind_3 := hc6
     refine x_call T.en_52 (fieldRight_any _ (by first | assumption | exact hx0.1)) ?_
    case' n6 =>
     have hnkind_3 := hc6
     refine x_call T.en_53 (place_any _) ?_
     refine And.intro (fun hc7 => ?y7) (fun hc7 => ?n7)
     case' n7 =>
      refine And.intro (fun hc8 => ?y8) (fun hc8 => ?n8)
      case' y8 =>
       have hkkind_1 := hc8
       refine x_call T.en_54 (name_any _) ?_
      case' n8 =>
       have hnkind_1 := hc8
       refine And.intro (fun hc9 => ?y9) (fun hc9 => ?n9)
       case' y9 =>
        have hkkind_4 := hc9
       case' n9 =>
        have hnkind_4 := hc9
        refine And.intro (fun hc10 => ?y10) (fun hc10 => ?n10)
        case' y10 =>
         have hkkind_5 := hc10
         refine And.intro (fun hg11 => ?y11) (fun hg11 => ?n11)
         case' y11 =>
          refine x_call T.en_54 (name_any _) ?_
        case' n10 =>
         have hnkind_5 := hc10
         refine And.intro (fun hc12 => ?y12) (fun hc12 => ?n12)
         case' y12 =>
          have hkkind_6 := hc12
          refine brT ?_
          refine x_call T.en_54 (name_any _) ?_
          refine And.intro (fun hg14 => ?y14) (fun hg14 => ?n14)
          case' y14 =>
           refine x_call T.en_54 (name_any _) ?_
           refine And.intro (fun hg15 => ?y15) (fun hg15 => ?n15)
           case' y15 =>
            refine And.intro (fun hg16 => ?y16) (fun hg16 => ?n16)
            case' y16 =>
             refine x_call T.en_55 (factor_any _) ?_
           case' n15 =>
            refine brF ?_
          case' n14 =>
           refine brF ?_
           refine brF ?_
         case' n12 =>
          have hnkind_6 := hc12
          refine And.intro (fun hc20 => ?y20) (fun hc20 => ?n20)
          case' y20 =>
           have hkkind_9 := hc20
           refine x_call T.en_54 (name_any _) ?_
           refine And.intro (fun hg21 => ?y21) (fun hg21 => ?n21)
           case' y21 =>
            refine x_call T.en_54 (name_any _) ?_
            refine And.intro (fun hg22 => ?y22) (fun hg22 => ?n22)
            case' y22 =>
             refine And.intro (fun hg23 => ?y23) (fun hg23 => ?n23)
             case' y23 =>
              refine x_call T.en_55 (factor_any _) ?_
            case' n22 =>
             refine brF ?_
           case' n21 =>
            refine brF ?_
            refine brF ?_
          case' n20 =>
           have hnkind_9 := hc20
           refine And.intro (fun hc27 => ?y27) (fun hc27 => ?n27)
           case' y27 =>
            have hkkind_7 := hc27
            refine brT ?_
            refine x_call T.en_56 (text_any _) ?_
           case' n27 =>
            have hnkind_7 := hc27
            refine And.intro (fun hc29 => ?y29) (fun hc29 => ?n29)
            case' y29 =>
             have hkkind_10 := hc29
             refine x_call T.en_56 (text_any _) ?_
            case' n29 =>
             have hnkind_10 := hc29
             refine x_call T.en_57 (rightTables_any _ hx0) ?_
 all_goals (refine x_ret ?_; simp only [fitsL, fits, C.asD, and_true] <;> (refine scb ?_; rw [← rightLp_eq, rightLp_q]; generalize (partsL x).2 = b2 at *; generalize decide (x = (partsL x).1) = b1 at *; unfold rightLq; first | (simp_all; done) | (simp_all [emp]; done) | grind))

set_option maxHeartbeats 1000000 in
theorem tables_any (x : LensD) : Contract Try.prog 44 [lD x] [.d (.sc (.bool (!(decide (x.forth.length = 0) && decide (x.back.length = 0)))))] := by
 refine T.fn [] Try.func44 ?_
 refine x_len ?_
 refine br (fun hg1 => ?y1) (fun hg1 => ?n1)
 case' n1 =>
  refine x_len ?_
 all_goals (refine x_ret ?_; simp only [fitsL, fits, C.asD, and_true] <;> (refine scb ?_; first | (symm; simp only [decide_eq_true_eq, decide_eq_false_iff_not, Bool.not_eq_true', Bool.not_eq_false', Bool.and_eq_true, Bool.or_eq_true, Bool.or_eq_false_iff, Bool.and_eq_false_iff, beq_iff_eq, beq_eq_false_iff_ne, ne_eq, Bool.not_true, Bool.not_false, Bool.false_eq_true, Bool.true_eq_false] at * <;> omega) | (rw [Bool.eq_iff_iff]; simp only [decide_eq_true_eq, decide_eq_false_iff_not, Bool.not_eq_true', Bool.not_eq_false', Bool.and_eq_true, Bool.or_eq_true, Bool.or_eq_false_iff, Bool.and_eq_false_iff, beq_iff_eq, beq_eq_false_iff_ne, ne_eq, Bool.not_true, Bool.not_false, Bool.false_eq_true, Bool.true_eq_false] at * <;> omega)))

set_option maxHeartbeats 1000000 in
theorem none_any (x : LensD) (hx0 : okX x) : Contract Try.prog 47 [lD x] [.d (.sc (.bool (decide (x.field = noField))))] := by
 refine T.fn [] Try.func47 ?_
 refine x_call T.en_60 (refFieldSame_any x.field noField hx0.1) ?_
 all_goals (refine x_ret ?_; simp only [fitsL, fits, C.asD, and_true] <;> (rfl))

set_option maxHeartbeats 1000000 in
theorem refLensRight_any (x : LensD) (hx0 : okX x) : Contract Try.prog 8 [lD x] [.d (.sc (.bool (rightL x)))] := by
 refine T.fn [] Try.func8 ?_
 refine br (fun hg1 => ?y1) (fun hg1 => ?n1)
 case' y1 =>
  have hkkind_2 := hg1
  refine brT ?_
  first | refine xeq_23e _ _ ?_ | refine xeq_23e _ noRef ?_ | refine xeq_23e noRef _ ?_
  refine br (fun hg3 => ?y3) (fun hg3 => ?n3)
  case' y3 =>
   refine br (fun hg4 => ?y4) (fun hg4 => ?n4)
   case' y4 =>
    refine br (fun hg5 => ?y5) (fun hg5 => ?n5)
    case' y5 =>
     refine br (fun hg6 => ?y6) (fun hg6 => ?n6)
     case' y6 =>
      refine x_call T.en_44 (tables_any _) ?_
      refine br (fun hg7 => ?y7) (fun hg7 => ?n7)
      case' y7 =>
       refine x_call T.en_45 (refFieldRight_any _ (by first | assumption | exact hx0.1)) ?_
     case' n6 =>
      refine brF ?_
    case' n5 =>
     refine brF ?_
     refine brF ?_
   case' n4 =>
    refine brF ?_
    refine brF ?_
    refine brF ?_
  case' n3 =>
   refine brF ?_
   refine brF ?_
   refine brF ?_
   refine brF ?_
 case' n1 =>
  have hnkind_2 := hg1
  refine br (fun hc18 => ?y18) (fun hc18 => ?n18)
  case' y18 =>
   have hkkind_3 := hc18
   first | refine xeq_23e _ _ ?_ | refine xeq_23e _ noRef ?_ | refine xeq_23e noRef _ ?_
   refine br (fun hg19 => ?y19) (fun hg19 => ?n19)
   case' y19 =>
    refine br (fun hg20 => ?y20) (fun hg20 => ?n20)
    case' y20 =>
     refine br (fun hg21 => ?y21) (fun hg21 => ?n21)
     case' y21 =>
      refine br (fun hg22 => ?y22) (fun hg22 => ?n22)
      case' y22 =>
       refine x_call T.en_44 (tables_any _) ?_
       refine br (fun hg23 => ?y23) (fun hg23 => ?n23)
       case' y23 =>
        refine x_call T.en_45 (refFieldRight_any _ (by first | assumption | exact hx0.1)) ?_
      case' n22 =>
       refine brF ?_
     case' n21 =>
      refine brF ?_
      refine brF ?_
    case' n20 =>
     refine brF ?_
     refine brF ?_
     refine brF ?_
   case' n19 =>
    refine brF ?_
    refine brF ?_
    refine brF ?_
    refine brF ?_
  case' n18 =>
   have hnkind_3 := hc18
   refine x_call T.en_46 (refPlace_any _) ?_
   refine br (fun hg34 => ?y34) (fun hg34 => ?n34)
   case' y34 =>
    refine brT ?_
   case' n34 =>
    refine x_call T.en_47 (none_any _ hx0) ?_
    refine br (fun hc36 => ?y36) (fun hc36 => ?n36)
    case' n36 =>
     refine br (fun hc37 => ?y37) (fun hc37 => ?n37)
     case' y37 =>
      have hkkind_8 := hc37
      refine x_call T.en_48 (refCase_any _ _ (by first | assumption | exact hx0.2.1 | exact hx0.2.2)) ?_
      refine x_call T.en_48 (refCase_any _ _ (by first | assumption | exact hx0.2.1 | exact hx0.2.2)) ?_
      refine br (fun hg38 => ?y38) (fun hg38 => ?n38)
      case' y38 =>
       refine x_call T.en_49 (refTable_any _ _ (by first | exact hx0.2.1 | exact hx0.2.2) (by first | exact hx0.2.1 | exact hx0.2.2)) ?_
       refine br (fun hg39 => ?y39) (fun hg39 => ?n39)
       case' y39 =>
        refine x_call T.en_49 (refTable_any _ _ (by first | exact hx0.2.1 | exact hx0.2.2) (by first | exact hx0.2.1 | exact hx0.2.2)) ?_
        refine br (fun hg40 => ?y40) (fun hg40 => ?n40)
        case' y40 =>
         refine br (fun hg41 => ?y41) (fun hg41 => ?n41)
         case' y41 =>
          refine br (fun hg42 => ?y42) (fun hg42 => ?n42)
          case' y42 =>
           refine br (fun hg43 => ?y43) (fun hg43 => ?n43)
          case' n42 =>
           refine brF ?_
         case' n41 =>
          refine brF ?_
          refine brF ?_
        case' n40 =>
         refine brF ?_
         refine brF ?_
         refine brF ?_
       case' n39 =>
        refine brF ?_
        refine brF ?_
        refine brF ?_
        refine brF ?_
      case' n38 =>
       refine brF ?_
       refine brF ?_
       refine brF ?_
       refine brF ?_
       refine brF ?_
     case' n37 =>
      have hnkind_8 := hc37
      refine x_call T.en_44 (tables_any _) ?_
      refine br (fun hc59 => ?y59) (fun hc59 => ?n59)
      case' n59 =>
       refine br (fun hg60 => ?y60) (fun hg60 => ?n60)
       case' y60 =>
        have hkkind_6 := hg60
        refine brT ?_
        refine x_call T.en_50 (refName_any _) ?_
        refine br (fun hg62 => ?y62) (fun hg62 => ?n62)
        case' y62 =>
         refine x_call T.en_50 (refName_any _) ?_
         refine br (fun hg63 => ?y63) (fun hg63 => ?n63)
         case' y63 =>
          refine br (fun hg64 => ?y64) (fun hg64 => ?n64)
          case' y64 =>
           refine br (fun hg65 => ?y65) (fun hg65 => ?n65)
          case' n64 =>
           refine brF ?_
         case' n63 =>
          refine brF ?_
          refine brF ?_
        case' n62 =>
         refine brF ?_
         refine brF ?_
         refine brF ?_
       case' n60 =>
        have hnkind_6 := hg60
        refine br (fun hc72 => ?y72) (fun hc72 => ?n72)
        case' y72 =>
         have hkkind_9 := hc72
         refine x_call T.en_50 (refName_any _) ?_
         refine br (fun hg73 => ?y73) (fun hg73 => ?n73)
         case' y73 =>
          refine x_call T.en_50 (refName_any _) ?_
          refine br (fun hg74 => ?y74) (fun hg74 => ?n74)
          case' y74 =>
           refine br (fun hg75 => ?y75) (fun hg75 => ?n75)
           case' y75 =>
            refine br (fun hg76 => ?y76) (fun hg76 => ?n76)
           case' n75 =>
            refine brF ?_
          case' n74 =>
           refine brF ?_
           refine brF ?_
         case' n73 =>
          refine brF ?_
          refine brF ?_
          refine brF ?_
        case' n72 =>
         have hnkind_9 := hc72
         refine br (fun hc83 => ?y83) (fun hc83 => ?n83)
         case' n83 =>
          refine br (fun hg84 => ?y84) (fun hg84 => ?n84)
          case' y84 =>
           have hkkind_7 := hg84
           refine brT ?_
           refine br (fun hg86 => ?y86) (fun hg86 => ?n86)
           case' y86 =>
            refine x_len ?_
          case' n84 =>
           have hnkind_7 := hg84
           refine br (fun hc87 => ?y87) (fun hc87 => ?n87)
           case' y87 =>
            have hkkind_10 := hc87
            refine br (fun hg88 => ?y88) (fun hg88 => ?n88)
            case' y88 =>
             refine x_len ?_
           case' n87 =>
            have hnkind_10 := hc87
            refine br (fun hc89 => ?y89) (fun hc89 => ?n89)
            case' n89 =>
             refine br (fun hc90 => ?y90) (fun hc90 => ?n90)
             case' y90 =>
              have hkkind_1 := hc90
              refine x_call T.en_50 (refName_any _) ?_
             case' n90 =>
              have hnkind_1 := hc90
              refine br (fun hc91 => ?y91) (fun hc91 => ?n91)
              case' y91 =>
               have hkkind_4 := hc91
               refine br (fun hg92 => ?y92) (fun hg92 => ?n92)
              case' n91 =>
               have hnkind_4 := hc91
               refine br (fun hg93 => ?y93) (fun hg93 => ?n93)
               case' y93 =>
                have hkkind_5 := hg93
                refine br (fun hg94 => ?y94) (fun hg94 => ?n94)
                case' y94 =>
                 refine x_call T.en_50 (refName_any _) ?_
               case' n93 =>
                have hnkind_5 := hg93
                refine brF ?_
 all_goals (refine x_ret ?_; simp only [fitsL, fits, C.asD, and_true] <;> (refine scb ?_; unfold rightL; first | (simp_all; done) | (simp_all [emp]; done) | (rcases hcf : caseT x.forth x.name with ⟨a, b⟩; rcases hcb : caseT x.back x.other with ⟨c, d⟩; simp_all; done) | grind))
end Go.Vm
end
section
namespace Go.Vm
open Go.RowKit Go.Proofs
set_option linter.unusedVariables false
set_option linter.unusedSimpArgs false
set_option maxRecDepth 10000

theorem goes_2 {x : LensD} (h : x.kind = 2) : goesL x = [] := by simp [goesL, h]
theorem goes_3 {x : LensD} (h : x.kind = 3) : goesL x = [x.field.at_] := by simp [goesL, h]
theorem goes_9 {x : LensD} (h : x.kind = 9) : goesL x = [named x.at_ x.name, named x.at_ x.other] := by simp [goesL, h]
theorem goes_o {x : LensD} (h2 : ¬ x.kind = 2) (h3 : ¬ x.kind = 3) (h9 : ¬ x.kind = 9) : goesL x = [x.at_] := by simp [goesL, h2, h3, h9]
theorem comes_2 {x : LensD} (h : x.kind = 2) : comesL x = [x.field.at_] := by simp [comesL, h]
theorem comes_3 {x : LensD} (h : x.kind = 3) : comesL x = [] := by simp [comesL, h]
theorem comes_6 {x : LensD} (h : x.kind = 6) : comesL x = [named x.at_ x.name, named x.at_ x.other] := by simp [comesL, h]
theorem comes_1 {x : LensD} (h : x.kind = 1) : comesL x = [named x.at_ x.name] := by simp [comesL, h]
theorem comes_4 {x : LensD} (h : x.kind = 4) : comesL x = [⟨x.at_.scope, noB, x.at_.name⟩] := by simp [comesL, h]
theorem comes_5 {x : LensD} (h : x.kind = 5) : comesL x = [⟨x.at_.scope, x.name, x.at_.name⟩] := by simp [comesL, h]
theorem comes_o {x : LensD} (h1 : ¬ x.kind = 1) (h2 : ¬ x.kind = 2) (h3 : ¬ x.kind = 3) (h4 : ¬ x.kind = 4) (h5 : ¬ x.kind = 5) (h6 : ¬ x.kind = 6) : comesL x = [x.at_] := by simp [comesL, h1, h2, h3, h4, h5, h6]

set_option maxHeartbeats 1000000 in
theorem named_any (r : RefD) (s : ByteArray) : Contract Try.prog 63 [rD r, .sc (.string s)] [.d (rD (named r s))] := by
 refine T.fn [] Try.func63 ?_
 all_goals (refine x_ret ?_; simp only [fitsL, fits, C.asD, and_true] <;> (rfl))

set_option maxHeartbeats 1000000 in
theorem beside_any (r : RefD) (s : ByteArray) : Contract Try.prog 62 [rD r, .sc (.string s)] [.d (rD (named r s))] := by
 refine T.fn [] Try.func62 ?_
 all_goals (refine x_ret ?_; simp only [fitsL, fits, C.asD, and_true] <;> (rfl))

set_option maxHeartbeats 1000000 in
theorem lensGoes_any (x : LensD) (hx0 : okX x) : Contract Try.prog 12 [lD x] [.d (.row ((if rightL x = true then goesL x else []).map rD))] := by
 refine T.fn [] Try.func12 ?_
 refine x_call T.en_9 (lensRight_any _ hx0) ?_
 refine br (fun hc1 => ?y1) (fun hc1 => ?n1)
 case' y1 =>
  have hr0 : ¬ rightL x = true := by simpa using hc1
 case' n1 =>
  have hr1 : rightL x = true := by simpa using hc1
  refine br (fun hc2 => ?y2) (fun hc2 => ?n2)
  case' y2 =>
   have hkkind_2 := hc2
  case' n2 =>
   have hnkind_2 := hc2
   refine br (fun hc3 => ?y3) (fun hc3 => ?n3)
   case' y3 =>
    have hkkind_3 := hc3
   case' n3 =>
    have hnkind_3 := hc3
    refine br (fun hc4 => ?y4) (fun hc4 => ?n4)
    case' y4 =>
     have hkkind_9 := hc4
     refine And.intro ⟨T.mixed, by decide +kernel⟩ ?_
     refine x_call T.en_62 (beside_any _ _) ?_
     refine x_call T.en_62 (beside_any _ _) ?_
    case' n4 =>
     have hnkind_9 := hc4
 all_goals (refine x_ret ?_; simp only [fitsL, fits, C.asD, and_true] <;> (first | (rw [if_neg hr0]; rfl) | (rw [if_pos hr1, goes_2 hkkind_2]; rfl) | (rw [if_pos hr1, goes_3 hkkind_3]; rfl) | (rw [if_pos hr1, goes_9 hkkind_9]; rfl) | (rw [if_pos hr1, goes_o hnkind_2 hnkind_3 hnkind_9]; rfl)))

set_option maxHeartbeats 1000000 in
theorem lensComes_any (x : LensD) (hx0 : okX x) : Contract Try.prog 13 [lD x] [.d (.row ((if rightL x = true then comesL x else []).map rD))] := by
 refine T.fn [] Try.func13 ?_
 refine x_call T.en_9 (lensRight_any _ hx0) ?_
 refine br (fun hc1 => ?y1) (fun hc1 => ?n1)
 case' y1 =>
  have hr0 : ¬ rightL x = true := by simpa using hc1
 case' n1 =>
  have hr1 : rightL x = true := by simpa using hc1
  refine br (fun hc2 => ?y2) (fun hc2 => ?n2)
  case' y2 =>
   have hkkind_1 := hc2
   refine x_call T.en_62 (beside_any _ _) ?_
  case' n2 =>
   have hnkind_1 := hc2
   refine br (fun hc3 => ?y3) (fun hc3 => ?n3)
   case' y3 =>
    have hkkind_2 := hc3
   case' n3 =>
    have hnkind_2 := hc3
    refine br (fun hc4 => ?y4) (fun hc4 => ?n4)
    case' y4 =>
     have hkkind_3 := hc4
    case' n4 =>
     have hnkind_3 := hc4
     refine br (fun hc5 => ?y5) (fun hc5 => ?n5)
     case' y5 =>
      have hkkind_4 := hc5
     case' n5 =>
      have hnkind_4 := hc5
      refine br (fun hc6 => ?y6) (fun hc6 => ?n6)
      case' y6 =>
       have hkkind_5 := hc6
      case' n6 =>
       have hnkind_5 := hc6
       refine br (fun hc7 => ?y7) (fun hc7 => ?n7)
       case' y7 =>
        have hkkind_6 := hc7
        refine And.intro ⟨T.mixed, by decide +kernel⟩ ?_
        refine x_call T.en_62 (beside_any _ _) ?_
        refine x_call T.en_62 (beside_any _ _) ?_
       case' n7 =>
        have hnkind_6 := hc7
 all_goals (refine x_ret ?_; simp only [fitsL, fits, C.asD, and_true] <;> (first | (rw [if_neg hr0]; rfl) | (rw [if_pos hr1, comes_2 hkkind_2]; rfl) | (rw [if_pos hr1, comes_3 hkkind_3]; rfl) | (rw [if_pos hr1, comes_6 hkkind_6]; rfl) | (rw [if_pos hr1, comes_1 hkkind_1]; rfl) | (rw [if_pos hr1, comes_4 hkkind_4]; rfl) | (rw [if_pos hr1, comes_5 hkkind_5]; rfl) | (rw [if_pos hr1, comes_o hnkind_1 hnkind_2 hnkind_3 hnkind_4 hnkind_5 hnkind_6]; rfl)))

set_option maxHeartbeats 1000000 in
theorem refGoes_any (x : LensD) : Contract Try.prog 15 [lD x] [.d (.row ((goesL x).map rD))] := by
 refine T.fn [] Try.func15 ?_
 refine br (fun hc1 => ?y1) (fun hc1 => ?n1)
 case' y1 =>
  have hkkind_2 := hc1
 case' n1 =>
  have hnkind_2 := hc1
  refine br (fun hc2 => ?y2) (fun hc2 => ?n2)
  case' y2 =>
   have hkkind_3 := hc2
  case' n2 =>
   have hnkind_3 := hc2
   refine br (fun hc3 => ?y3) (fun hc3 => ?n3)
   case' y3 =>
    have hkkind_9 := hc3
    refine And.intro ⟨T.mixed, by decide +kernel⟩ ?_
    refine x_call T.en_63 (named_any _ _) ?_
    refine x_call T.en_63 (named_any _ _) ?_
   case' n3 =>
    have hnkind_9 := hc3
 all_goals (refine x_ret ?_; simp only [fitsL, fits, C.asD, and_true] <;> (first | (rw [goes_2 hkkind_2]; rfl) | (rw [goes_3 hkkind_3]; rfl) | (rw [goes_9 hkkind_9]; rfl) | (rw [goes_o hnkind_2 hnkind_3 hnkind_9]; rfl)))

set_option maxHeartbeats 1000000 in
theorem refComes_any (x : LensD) : Contract Try.prog 16 [lD x] [.d (.row ((comesL x).map rD))] := by
 refine T.fn [] Try.func16 ?_
 refine br (fun hc1 => ?y1) (fun hc1 => ?n1)
 case' y1 =>
  have hkkind_2 := hc1
 case' n1 =>
  have hnkind_2 := hc1
  refine br (fun hc2 => ?y2) (fun hc2 => ?n2)
  case' y2 =>
   have hkkind_3 := hc2
  case' n2 =>
   have hnkind_3 := hc2
   refine br (fun hc3 => ?y3) (fun hc3 => ?n3)
   case' y3 =>
    have hkkind_6 := hc3
    refine And.intro ⟨T.mixed, by decide +kernel⟩ ?_
    refine x_call T.en_63 (named_any _ _) ?_
    refine x_call T.en_63 (named_any _ _) ?_
   case' n3 =>
    have hnkind_6 := hc3
    refine br (fun hc4 => ?y4) (fun hc4 => ?n4)
    case' y4 =>
     have hkkind_1 := hc4
     refine x_call T.en_63 (named_any _ _) ?_
    case' n4 =>
     have hnkind_1 := hc4
     refine br (fun hc5 => ?y5) (fun hc5 => ?n5)
     case' y5 =>
      have hkkind_4 := hc5
      refine br (fun hc6 => ?y6) (fun hc6 => ?n6)
      case' y6 =>
       exfalso; omega
      case' n6 =>
       have hnkind_5 := hc6
     case' n5 =>
      have hnkind_4 := hc5
      refine br (fun hc7 => ?y7) (fun hc7 => ?n7)
      case' y7 =>
       have hkkind_5 := hc7
      case' n7 =>
       have hnkind_5 := hc7
 all_goals (refine x_ret ?_; simp only [fitsL, fits, C.asD, and_true] <;> (first | (rw [comes_2 hkkind_2]; rfl) | (rw [comes_3 hkkind_3]; rfl) | (rw [comes_6 hkkind_6]; rfl) | (rw [comes_1 hkkind_1]; rfl) | (rw [comes_4 hkkind_4]; rfl) | (rw [comes_5 hkkind_5]; rfl) | (rw [comes_o hnkind_1 hnkind_2 hnkind_3 hnkind_4 hnkind_5 hnkind_6]; rfl)))
end Go.Vm
end
section
namespace Go.Vm
open Go.RowKit Go.Proofs
set_option linter.unusedVariables false
set_option linter.unusedSimpArgs false
set_option maxRecDepth 10000

theorem lensGoes_at (x : LensD) (hx0 : okX x) (hx : rightL x = true) : Contract Try.prog 12 [lD x] [.d (.row ((goesL x).map rD))] := by have h := lensGoes_any x hx0; rwa [if_pos hx] at h
theorem lensComes_at (x : LensD) (hx0 : okX x) (hx : rightL x = true) : Contract Try.prog 13 [lD x] [.d (.row ((comesL x).map rD))] := by have h := lensComes_any x hx0; rwa [if_pos hx] at h
theorem go9_0 {x : LensD} (h : x.kind = 9) : ((goesL x).map rD)[(0 : Int).toNat]? = some (rD (named x.at_ x.name)) := by rw [goes_9 h]; rfl
theorem go9_1 {x : LensD} (h : x.kind = 9) : ((goesL x).map rD)[(1 : Int).toNat]? = some (rD (named x.at_ x.other)) := by rw [goes_9 h]; rfl
theorem co6_0 {x : LensD} (h : x.kind = 6) : ((comesL x).map rD)[(0 : Int).toNat]? = some (rD (named x.at_ x.name)) := by rw [comes_6 h]; rfl
theorem co6_1 {x : LensD} (h : x.kind = 6) : ((comesL x).map rD)[(1 : Int).toNat]? = some (rD (named x.at_ x.other)) := by rw [comes_6 h]; rfl
theorem co_at {x : LensD} (h : x.kind = 7 ∨ x.kind = 8 ∨ x.kind = 9 ∨ x.kind = 10) : ((comesL x).map rD)[(0 : Int).toNat]? = some (rD x.at_) := by rw [comes_o (by omega) (by omega) (by omega) (by omega) (by omega) (by omega)]; rfl
theorem comes_ne {x : LensD} (h : ¬ x.kind = 3) : comesL x ≠ [] := by
  unfold comesL; simp only [h, if_false]; (repeat' split) <;> simp
theorem co_0 {x : LensD} (h : ¬ x.kind = 3) : ((comesL x).map rD)[(0 : Int).toNat]? = some (rD (comeL x)) := by
  have := comes_ne h
  unfold comeL
  cases hc : comesL x with
  | nil => exact absurd hc this
  | cons c cs => rfl
theorem mul_bound {a b : Int} (h : 0 ≤ a ∧ a ≤ 1048576) (h2 : 0 ≤ b ∧ b ≤ 1000) : -9223372036854775808 ≤ a * b ∧ a * b ≤ 9223372036854775807 := by
  have h3 := Int.mul_nonneg h.1 h2.1
  have h4 : a * b ≤ 1048576 * 1000 := Int.mul_le_mul h.2 h2.2 h2.1 (by omega)
  omega
theorem factor_ok {x : LensD} (hx : rightL x = true) (h : x.kind = 6 ∨ x.kind = 9) : 0 ≤ x.factor ∧ x.factor ≤ 1000 := by
  unfold rightL at hx
  rw [if_neg (by omega), if_neg (show ¬ x.kind = 8 by omega), if_pos h] at hx
  simp only [Bool.and_eq_true, decide_eq_true_eq] at hx
  omega
theorem find_in {l : List FieldD} {r : RefD} (h : (findS l r).2 = 0) : ¬ indexS l r < 0 := by
  intro h'; rw [find_neg h'] at h; simp at h
theorem find_worth {l : List FieldD} {r : RefD} (hl : rightS l = true) (h : (findS l r).2 = 0) : 0 ≤ (findS l r).1.worth ∧ (findS l r).1.worth ≤ 1048576 := by
  have h' := find_in h
  rw [find_pos h']
  exact rightF_worth (rightS_mem hl (fieldAt_spec h').1)
theorem find_ok {l : List FieldD} {r : RefD} (ho : okL l) : (findS l r).1.cases.length ≤ 1000000 := by
  by_cases h : indexS l r < 0
  · rw [find_neg h]; simp [noField]
  · rw [find_pos h]; exact ho.2 _ (fieldAt_spec h).1
theorem arr_2 {l : List FieldD} {x : LensD} (h : x.kind = 2) : arrS l x = ([x.field], true) := by unfold arrS; rw [if_pos h]
theorem arr_3 {l : List FieldD} {x : LensD} (h : x.kind = 3) : arrS l x = ([], decide ((findS l x.field.at_).2 = 0) && decide ((findS l x.field.at_).1 = x.field)) := by unfold arrS; rw [if_neg (by omega), if_pos h]
theorem arr_9 {l : List FieldD} {x : LensD} (h : x.kind = 9) : arrS l x = mergedS l x := by unfold arrS; rw [if_neg (by omega), if_neg (by omega), if_pos h]
theorem arr_no {l : List FieldD} {x : LensD} (h2 : ¬ x.kind = 2) (h3 : ¬ x.kind = 3) (h9 : ¬ x.kind = 9) (hf : ¬ (findS l x.at_).2 = 0) : arrS l x = ([], false) := by unfold arrS; rw [if_neg h2, if_neg h3, if_neg h9, if_pos hf]
theorem arr_6 {l : List FieldD} {x : LensD} (h : x.kind = 6) (hf : (findS l x.at_).2 = 0) : arrS l x = ([⟨named x.at_ x.name, 1, noB, [], (findS l x.at_).1.worth⟩, ⟨named x.at_ x.other, 1, noB, [], (findS l x.at_).1.worth * x.factor⟩], decide ((findS l x.at_).1.kind = 1)) := by
  unfold arrS; rw [if_neg (by omega), if_neg (by omega), if_neg (by omega), if_neg (by omega), if_pos h]
theorem arr_7 {l : List FieldD} {x : LensD} (h : x.kind = 7) (hf : (findS l x.at_).2 = 0) : arrS l x = ([⟨x.at_, 4, noB, [], 0⟩], decide ((findS l x.at_).1.kind = 2) && decide ((findS l x.at_).1.deft = x.other)) := by
  unfold arrS; rw [if_neg (by omega), if_neg (by omega), if_neg (by omega), if_neg (by omega), if_neg (by omega), if_pos h]
theorem arr_10 {l : List FieldD} {x : LensD} (h : x.kind = 10) (hf : (findS l x.at_).2 = 0) : arrS l x = ([⟨x.at_, 2, x.other, [], 0⟩], decide ((findS l x.at_).1.kind = 4)) := by
  unfold arrS; rw [if_neg (by omega), if_neg (by omega), if_neg (by omega), if_neg (by omega), if_neg (by omega), if_neg (by omega), if_pos h]
theorem arr_8 {l : List FieldD} {x : LensD} (h : x.kind = 8) (hf : (findS l x.at_).2 = 0) : arrS l x = ([⟨x.at_, 3, x.other, froms x.back, 0⟩], decide ((findS l x.at_).1 = ⟨x.at_, 3, x.name, froms x.forth, 0⟩)) := by
  unfold arrS; rw [if_neg (by omega), if_neg (by omega), if_neg (by omega), if_neg (by omega), if_neg (by omega), if_neg (by omega), if_neg (by omega), if_pos h]
theorem arr_o {l : List FieldD} {x : LensD} (h : ¬ x.kind = 2 ∧ ¬ x.kind = 3 ∧ ¬ x.kind = 9 ∧ ¬ x.kind = 6 ∧ ¬ x.kind = 7 ∧ ¬ x.kind = 10 ∧ ¬ x.kind = 8) (hf : (findS l x.at_).2 = 0) : arrS l x = ([⟨comeL x, (findS l x.at_).1.kind, (findS l x.at_).1.deft, (findS l x.at_).1.cases, (findS l x.at_).1.worth⟩], true) := by
  unfold arrS; rw [if_neg (by omega), if_neg (by omega), if_neg (by omega), if_neg (by omega), if_neg (by omega), if_neg (by omega), if_neg (by omega), if_neg (by omega)]
theorem pair_and {A : Prop} {a b : Bool} (h1 : A) (h : a = b) : A ∧ D.sc (.bool a) = D.sc (.bool b) := ⟨h1, scb h⟩

set_option maxHeartbeats 1000000 in
theorem merged_any (l : List FieldD) (x : LensD) (ho : okL l) (hx0 : okX x) (hl : rightS l = true) (hx : rightL x = true) (hk : x.kind = 9) : Contract Try.prog 125 [.row (l.map fD), lD x] [.d (.row ((mergedS l x).1.map fD)), .d (.sc (.bool ((mergedS l x).2)))] := by
 refine T.fn [] Try.func125 ?_
 refine x_call T.en_12 (lensGoes_at _ hx0 hx) ?_
 first | refine x_ix (by first | exact go9_0 (by omega) | exact go9_1 (by omega) | exact co6_0 (by omega) | exact co6_1 (by omega) | exact co_0 (by omega)) ?_ | refine x_ixI (by first | exact go9_0 (by omega) | exact go9_1 (by omega) | exact co6_0 (by omega) | exact co6_1 (by omega) | exact co_0 (by omega)) ?_
 refine x_call T.en_41 (schemaFind_any _ _ ho) ?_
 refine br (fun hg1 => ?y1) (fun hg1 => ?n1)
 case' y1 =>
  refine brT ?_
 case' n1 =>
  have hu0 : (findS l (named x.at_ x.name)).2 = 0 := by simpa using hg1
  refine br (fun hc3 => ?y3) (fun hc3 => ?n3)
  case' n3 =>
   first | refine x_ix (by first | exact go9_0 (by omega) | exact go9_1 (by omega) | exact co6_0 (by omega) | exact co6_1 (by omega) | exact co_0 (by omega)) ?_ | refine x_ixI (by first | exact go9_0 (by omega) | exact go9_1 (by omega) | exact co6_0 (by omega) | exact co6_1 (by omega) | exact co_0 (by omega)) ?_
   refine x_call T.en_41 (schemaFind_any _ _ ho) ?_
   refine br (fun hg4 => ?y4) (fun hg4 => ?n4)
   case' y4 =>
    refine brT ?_
    refine brT ?_
   case' n4 =>
    refine br (fun hg7 => ?y7) (fun hg7 => ?n7)
    case' y7 =>
     refine brT ?_
    case' n7 =>
     first | refine x_bin (pr_mul (wrap64 _ (mul_bound (find_worth hl hu0) (factor_ok hx (.inr hk))))) rfl ?_ | refine x_mul ?_ | refine x_bin rfl rfl ?_
     refine br (fun hc9 => ?y9) (fun hc9 => ?n9)
 all_goals (refine x_ret ?_; simp only [fitsL, fits, C.asD, and_true] <;> (first | (unfold mergedS; simp_all; done) | (have hm : mergedS l x = ([⟨x.at_, 1, noB, [], (findS l (named x.at_ x.name)).1.worth⟩], true) := (by unfold mergedS; simp_all; done); rw [hm]; exact ⟨rfl, rfl⟩)))
end Go.Vm
end
section
namespace Go.Vm
open Go.RowKit Go.Proofs
set_option linter.unusedVariables false
set_option linter.unusedSimpArgs false
set_option maxRecDepth 10000

set_option maxHeartbeats 1000000 in
theorem arrivals_any (l : List FieldD) (x : LensD) (ho : okL l) (hx0 : okX x) (hl : rightS l = true) (hx : rightL x = true) : Contract Try.prog 99 [.row (l.map fD), lD x] [.d (.row ((arrS l x).1.map fD)), .d (.sc (.bool ((arrS l x).2)))] := by
 refine T.fn [] Try.func99 ?_
 refine br (fun hc1 => ?y1) (fun hc1 => ?n1)
 case' y1 =>
  have hkkind_2 := hc1
  refine x_call T.en_64 (fieldOwn_any _ hx0.1) ?_
 case' n1 =>
  have hnkind_2 := hc1
  refine br (fun hc2 => ?y2) (fun hc2 => ?n2)
  case' y2 =>
   have hkkind_3 := hc2
   refine x_call T.en_41 (schemaFind_any _ _ ho) ?_
   refine br (fun hg3 => ?y3) (fun hg3 => ?n3)
   case' y3 =>
    refine x_call T.en_58 (by first | exact fieldSame_any _ x.field (find_ok ho) | exact fieldSame_any _ ⟨x.at_, 3, x.name, froms x.forth, 0⟩ (find_ok ho)) ?_
  case' n2 =>
   have hnkind_3 := hc2
   refine br (fun hc4 => ?y4) (fun hc4 => ?n4)
   case' y4 =>
    have hkkind_9 := hc4
    refine x_call T.en_125 (merged_any _ _ ho hx0 hl hx (by omega)) ?_
   case' n4 =>
    have hnkind_9 := hc4
    refine x_call T.en_41 (schemaFind_any _ _ ho) ?_
    refine br (fun hc5 => ?y5) (fun hc5 => ?n5)
    case' y5 =>
     have hf1 : ¬ (findS l x.at_).2 = 0 := by simpa using hc5
    case' n5 =>
     have hf0 : (findS l x.at_).2 = 0 := by simpa using hc5
     refine x_call T.en_13 (lensComes_at _ hx0 hx) ?_
     refine br (fun hc6 => ?y6) (fun hc6 => ?n6)
     case' y6 =>
      have hkkind_6 := hc6
      refine And.intro ⟨T.mixed, by decide +kernel⟩ ?_
      first | refine x_ix (by first | exact go9_0 (by omega) | exact go9_1 (by omega) | exact co6_0 (by omega) | exact co6_1 (by omega) | exact co_0 (by omega)) ?_ | refine x_ixI (by first | exact go9_0 (by omega) | exact go9_1 (by omega) | exact co6_0 (by omega) | exact co6_1 (by omega) | exact co_0 (by omega)) ?_
      refine And.intro ⟨T.mixed, by decide +kernel⟩ ?_
      first | refine x_ix (by first | exact go9_0 (by omega) | exact go9_1 (by omega) | exact co6_0 (by omega) | exact co6_1 (by omega) | exact co_0 (by omega)) ?_ | refine x_ixI (by first | exact go9_0 (by omega) | exact go9_1 (by omega) | exact co6_0 (by omega) | exact co6_1 (by omega) | exact co_0 (by omega)) ?_
      first | refine x_bin (pr_mul (wrap64 _ (mul_bound (find_worth hl hf0) (factor_ok hx (by omega))))) rfl ?_ | refine x_mul ?_ | refine x_bin rfl rfl ?_
      refine And.intro ⟨T.mixed, by decide +kernel⟩ ?_
     case' n6 =>
      have hnkind_6 := hc6
      refine br (fun hc7 => ?y7) (fun hc7 => ?n7)
      case' y7 =>
       have hkkind_7 := hc7
       refine And.intro ⟨T.mixed, by decide +kernel⟩ ?_
       refine br (fun hg8 => ?y8) (fun hg8 => ?n8)
      case' n7 =>
       have hnkind_7 := hc7
       refine br (fun hc9 => ?y9) (fun hc9 => ?n9)
       case' y9 =>
        have hkkind_10 := hc9
        refine And.intro ⟨T.mixed, by decide +kernel⟩ ?_
       case' n9 =>
        have hnkind_10 := hc9
        refine br (fun hc10 => ?y10) (fun hc10 => ?n10)
        case' y10 =>
         have hkkind_8 := hc10
         refine And.intro ⟨T.mixed, by decide +kernel⟩ ?_
         refine x_call T.en_126 (froms_any _ (by first | exact hx0.2.1 | exact hx0.2.2)) ?_
         refine And.intro ⟨T.mixed, by decide +kernel⟩ ?_
         refine x_call T.en_126 (froms_any _ (by first | exact hx0.2.1 | exact hx0.2.2)) ?_
         refine And.intro ⟨T.mixed, by decide +kernel⟩ ?_
         refine x_call T.en_58 (by first | exact fieldSame_any _ x.field (find_ok ho) | exact fieldSame_any _ ⟨x.at_, 3, x.name, froms x.forth, 0⟩ (find_ok ho)) ?_
        case' n10 =>
         have hnkind_8 := hc10
         first | refine x_ix (by first | exact go9_0 (by omega) | exact go9_1 (by omega) | exact co6_0 (by omega) | exact co6_1 (by omega) | exact co_0 (by omega)) ?_ | refine x_ixI (by first | exact go9_0 (by omega) | exact go9_1 (by omega) | exact co6_0 (by omega) | exact co6_1 (by omega) | exact co_0 (by omega)) ?_
 all_goals (refine x_ret ?_; simp only [fitsL, fits, C.asD, and_true] <;> (first | (rw [arr_2 hkkind_2]; exact ⟨rfl, rfl⟩) | (rw [arr_3 hkkind_3]; refine pair_and rfl ?_; simp_all; done) | (rw [arr_9 hkkind_9]; exact ⟨rfl, rfl⟩) | (rw [arr_no hnkind_2 hnkind_3 hnkind_9 hf1]; exact ⟨rfl, rfl⟩) | (rw [arr_6 hkkind_6 hf0]; exact ⟨rfl, rfl⟩) | (rw [arr_7 hkkind_7 hf0]; refine pair_and rfl ?_; simp_all; done) | (rw [arr_10 hkkind_10 hf0]; exact ⟨rfl, rfl⟩) | (rw [arr_8 hkkind_8 hf0]; exact ⟨rfl, rfl⟩) | (rw [arr_o (by omega) hf0]; exact ⟨rfl, rfl⟩)))
end Go.Vm
end
section
namespace Go.Vm
open Go.RowKit Go.Proofs
set_option linter.unusedVariables false
set_option linter.unusedSimpArgs false
set_option maxRecDepth 10000

theorem okL_sub {l m : List FieldD} (ho : okL l) (h : m.length ≤ 1000) (hs : ∀ f ∈ m, f ∈ l) : okL m := ⟨h, fun f hf => ho.2 f (hs f hf)⟩
theorem okL_del {l : List FieldD} {r : RefD} (ho : okL l) : okL (delF l r) := okL_sub ho (by have := ho.1; have h := List.length_filter_le (fun f => !decide (f.at_ = r)) l; unfold delF; omega) (fun f hf => (mem_delF.1 hf).1)
theorem okL_nil : okL [] := ⟨by simp, by simp⟩
theorem okL_without {l : List FieldD} {r : RefD} (ho : okL l) : okL (withoutS l r).1 := by
  unfold withoutS
  split
  · exact okL_nil
  split
  · exact okL_nil
  · exact okL_del ho
theorem okL_with {l : List FieldD} {f : FieldD} (ho : okL l) (hf : f.cases.length ≤ 1000000) : okL (withS l f).1 := by
  unfold withS
  split
  · exact okL_nil
  split
  · exact okL_nil
  split
  · exact okL_nil
  · refine ⟨by show (insF l f).length ≤ 1000; rw [length_insF]; omega, fun g hg => ?_⟩
    rcases mem_insF.1 hg with rfl | hg
    · exact hf
    · exact ho.2 g hg
theorem okL_withAll : ∀ {fs l : List FieldD}, okL l → (∀ f ∈ fs, f.cases.length ≤ 1000000) → okL (withAll l fs).1
  | [], l, h, _ => h
  | f :: fs, l, h, hf => by
    unfold withAll
    split
    · exact okL_withAll (okL_with h (hf f (List.mem_cons_self ..))) (fun g hg => hf g (List.mem_cons_of_mem _ hg))
    · exact okL_nil
theorem okL_delAll {rs : List RefD} : ∀ {l : List FieldD}, okL l → okL (delAll l rs) := by
  induction rs with
  | nil => intro l h; exact h
  | cons r rs ih => intro l h; exact ih (okL_del h)
theorem froms_ok {t : List (ByteArray × ByteArray)} (h : t.length ≤ 1000) : (froms t).length ≤ 1000000 := by unfold froms; rw [List.length_map]; omega
theorem news_ok {l : List FieldD} {x : LensD} {fs : List FieldD} (ho : okL l) (hx0 : okX x) (hat : ∀ g ∈ goesL x, ¬ indexS l g < 0) (h : newsL l x = some fs) : ∀ f ∈ fs, f.cases.length ≤ 1000000 := by
  have h1 := hx0.1
  have h2 := froms_ok hx0.2.2
  unfold newsL at h
  split at h
  · injection h with h; subst h; simpa using h1
  split at h
  · split at h
    · injection h with h; subst h; simp
    · cases h
  split at h
  · split at h
    · injection h with h; subst h; simp
    · cases h
  split at h
  · split at h
    · injection h with h; subst h; simp
    · cases h
  split at h
  · split at h
    · injection h with h; subst h; simp
    · cases h
  split at h
  · split at h
    · injection h with h; subst h; simp
    · cases h
  split at h
  · split at h
    · injection h with h; subst h; simpa using h2
    · cases h
  · rename_i q2 q3 q9 q6 q7 q10 q8
    injection h with h; subst h
    have hfa : (fieldAt l x.at_).cases.length ≤ 1000000 := ho.2 _ (fieldAt_spec (hat x.at_ (by rw [goes_o q2 q3 q9]; exact List.mem_singleton.2 rfl))).1
    cases comesL x with
    | nil => simp
    | cons c cs => simpa using hfa
theorem arr_ok {l : List FieldD} {x : LensD} (ho : okL l) (hx0 : okX x) (h : (arrS l x).2 = true) : ∀ f ∈ (arrS l x).1, f.cases.length ≤ 1000000 := by
  have hat : ∀ g ∈ goesL x, ¬ indexS l g < 0 := by
    intro g hg hn
    have := arr_missing (l := l) (x := x) (List.any_eq_true.2 ⟨g, hg, by simpa using hn⟩)
    rw [h] at this; cases this
  have h4 := arr_news hat
  cases hn : newsL l x with
  | none => rw [hn] at h4; simp only at h4; rw [h] at h4; cases h4
  | some fs => rw [hn] at h4; simp only at h4; rw [h4]; exact news_ok ho hx0 hat hn
theorem okL_apply {l : List FieldD} {x : LensD} (ho : okL l) (hx0 : okX x) : okL (applyS l x).1 := by
  unfold applyS
  split
  · exact okL_nil
  split
  · exact okL_nil
  rename_i hg
  have hat : ∀ g ∈ goesL x, ¬ indexS l g < 0 := by simpa using hg
  split
  · exact okL_nil
  · rename_i fs hfs
    exact okL_withAll (okL_delAll ho) (news_ok ho hx0 hat hfs)
theorem drop_at {α : Type} {l : List α} {k : Nat} {p : α} (hp : l[k]? = some p) : l.drop k = p :: l.drop (k + 1) := by
  obtain ⟨hlt, rfl⟩ := List.getElem?_eq_some_iff.1 hp
  exact List.drop_eq_getElem_cons hlt
theorem goes_len (x : LensD) : (goesL x).length ≤ 2 := by unfold goesL; (repeat' split) <;> simp
theorem app_5 {l : List FieldD} {x : LensD} (h : (rightS l && rightL x) = false) : applyS l x = ([], 5) := by unfold applyS; rw [if_pos h]
theorem app_arr {l : List FieldD} {x : LensD} (hl : rightS l = true) (hx : rightL x = true) (h : (arrS l x).2 = false) : applyS l x = ([], 16) := by rw [← applyP_eq]; unfold applyP; rw [hl, hx, if_neg (by simp), if_pos h]
theorem app_del {l : List FieldD} {x : LensD} (hl : rightS l = true) (hx : rightL x = true) (h : (arrS l x).2 = true) (hd : delLoop l (goesL x) = ([], 16)) : applyS l x = ([], 16) := by rw [← applyP_eq]; unfold applyP; rw [hl, hx, if_neg (by simp), h, if_neg (by simp), hd, if_pos (by simp)]
theorem app_with {l m : List FieldD} {x : LensD} (hl : rightS l = true) (hx : rightL x = true) (h : (arrS l x).2 = true) (hd : delLoop l (goesL x) = (m, 0)) : applyS l x = withAll m (arrS l x).1 := by rw [← applyP_eq]; unfold applyP; rw [hl, hx, if_neg (by simp), h, if_neg (by simp), hd, if_neg (by simp)]
theorem delLoop_hit {l : List FieldD} {r : RefD} {rs : List RefD} (h : ¬ (withoutS l r).2 = 0) : delLoop l (r :: rs) = ([], 16) := by unfold delLoop; rw [if_neg h]
theorem delLoop_next {l : List FieldD} {r : RefD} {rs : List RefD} (h : (withoutS l r).2 = 0) : delLoop l (r :: rs) = delLoop (withoutS l r).1 rs := by rw [delLoop, if_pos h]
theorem withAll_hit {l : List FieldD} {f : FieldD} {fs : List FieldD} (h : ¬ (withS l f).2 = 0) : withAll l (f :: fs) = ([], 16) := by rw [withAll, if_neg h]
theorem withAll_next {l : List FieldD} {f : FieldD} {fs : List FieldD} (h : (withS l f).2 = 0) : withAll l (f :: fs) = withAll (withS l f).1 fs := by rw [withAll, if_pos h]
theorem del_end {l m : List FieldD} {rs : List RefD} {k : Nat} (hk : rs.length ≤ k) (h : delLoop l rs = delLoop m (rs.drop k)) : delLoop l rs = (m, 0) := by rw [h, List.drop_eq_nil_of_le hk]; rfl
theorem with_end {l m fs : List FieldD} {k : Nat} (hk : fs.length ≤ k) (h : withAll l fs = withAll m (fs.drop k)) : withAll l fs = (m, 0) := by rw [h, List.drop_eq_nil_of_le hk]; rfl
theorem arr_len (l : List FieldD) (x : LensD) : (arrS l x).1.length ≤ 2 := by unfold arrS mergedS; (repeat' split) <;> simp

set_option maxHeartbeats 1000000 in
theorem apply_any (l : List FieldD) (x : LensD) (ho : okL l) (hx0 : okX x) : Contract Try.prog 39 [.row (l.map fD), lD x] [.d (.row ((applyS l x).1.map fD)), .d (.sc (.int .i64 (applyS l x).2))] := by
 refine T.fn [] Try.func39 ?_
 have hl0 := ho.1
 refine x_call T.en_98 (schemaRight_any _ ho) ?_
 refine br (fun hg1 => ?y1) (fun hg1 => ?n1)
 case' y1 =>
  refine brT ?_
  have h5 : (rightS l && rightL x) = false := by simp_all
 case' n1 =>
  refine x_call T.en_9 (lensRight_any _ hx0) ?_
  refine br (fun hc3 => ?y3) (fun hc3 => ?n3)
  case' y3 =>
   have h5 : (rightS l && rightL x) = false := by simp_all
  case' n3 =>
   have hg1 : rightS l = true ∧ rightL x = true := by simp_all
   have hl := hg1.1
   have hx := hg1.2
   refine x_call T.en_99 (arrivals_any _ _ ho hx0 hl hx) ?_
   refine br (fun hc4 => ?y4) (fun hc4 => ?n4)
   case' y4 =>
    have har : (arrS l x).2 = false := by simpa using hc4
   case' n4 =>
    have har : (arrS l x).2 = true := by simpa using hc4
    have haok := arr_ok ho hx0 har
    have hgl := goes_len x
    have hal := arr_len l x
    refine x_call T.en_97 (schemaOwn_any _ ho) ?_
    refine x_call T.en_12 (lensGoes_at _ hx0 hx) ?_
    refine x_len ?_
    refine xloopR (fb := []) T.ok (Nat.le_of_ble_eq_true rfl) [6, 33, 34] (fun (s : Nat × List FieldD) => [(35, .c (.d (.sc (.int .i64 ((s.1 : Nat) : Int))))), (8, .c (.d (.row (s.2.map fD))))]) (fun s => s.1 ≤ (goesL x).length ∧ okL s.2 ∧ delLoop l (goesL x) = delLoop s.2 ((goesL x).drop s.1)) (fun s => (goesL x).length - s.1) (0, l) ⟨Nat.zero_le _, ho, rfl⟩ (x_ent (by first | rfl | (simp only [Tr.get]; simp; done)) (x_ent (by first | rfl | (simp only [Tr.get]; simp; done)) trivial)) ?_
    rintro s ⟨hk, hok, hi⟩
    refine br (fun hc5 => ?y5) (fun hc5 => ?n5)
    case' y5 =>
     obtain ⟨p, hp⟩ := elem_at hc5
     have hkl := lt_len hp
     first | refine x_ix (by first | exact mapAt hp | exact mapAt hq) ?_ | refine x_ixI (by first | exact mapAt hp | exact mapAt hq) ?_
     refine x_call T.en_100 (schemaWithout_any _ _ hok) ?_
     refine br (fun hc6 => ?y6) (fun hc6 => ?n6)
     case' y6 =>
      have hc0 : ¬ (withoutS s.2 p).2 = 0 := by simpa using hc6
      have hD : delLoop l (goesL x) = ([], 16) := by rw [hi, drop_at hp]; exact delLoop_hit hc0
     case' n6 =>
      have hc0 : (withoutS s.2 p).2 = 0 := by simpa using hc6
      first | refine x_bin (pr_add1 (by omega)) rfl ?_ | refine x_inc ?_ | refine x_add ?_ | refine x_bin rfl rfl ?_
      refine x_rnd (s.1 + 1, (withoutS s.2 p).1) ⟨lt_len hp, okL_without hok, by rw [hi, drop_at hp]; exact delLoop_next hc0⟩ (by (try dsimp only); have := lt_len hp; (try dsimp only); omega) rfl (x_ent (by first | rfl | (simp only [Tr.get]; simp; done)) (x_ent (by first | rfl | (simp only [Tr.get]; simp; done)) trivial)) rfl
    case' n5 =>
     have hD : delLoop l (goesL x) = (s.2, 0) := del_end (past_end hc5) hi
     refine x_len ?_
     refine xloopR (fb := []) T.ok (Nat.le_of_ble_eq_true rfl) [48, 49] (fun (u : Nat × List FieldD) => [(50, .c (.d (.sc (.int .i64 ((u.1 : Nat) : Int))))), (8, .c (.d (.row (u.2.map fD))))]) (fun u => u.1 ≤ (arrS l x).1.length ∧ okL u.2 ∧ withAll s.2 (arrS l x).1 = withAll u.2 ((arrS l x).1.drop u.1)) (fun u => (arrS l x).1.length - u.1) (0, s.2) ⟨Nat.zero_le _, hok, rfl⟩ (x_ent (by first | rfl | (simp only [Tr.get]; simp; done)) (x_ent (by first | rfl | (simp only [Tr.get]; simp; done)) trivial)) ?_
     rintro u ⟨hk2, hok, hv⟩
     refine br (fun hc7 => ?y7) (fun hc7 => ?n7)
     case' y7 =>
      obtain ⟨q, hq⟩ := elem_at hc7
      have hkl2 := lt_len hq
      first | refine x_ix (by first | exact mapAt hp | exact mapAt hq) ?_ | refine x_ixI (by first | exact mapAt hp | exact mapAt hq) ?_
      refine x_call T.en_101 (schemaWith_any _ _ hok (haok _ (List.mem_of_getElem? hq))) ?_
      refine br (fun hc8 => ?y8) (fun hc8 => ?n8)
      case' y8 =>
       have hw0 : ¬ (withS u.2 q).2 = 0 := by simpa using hc8
       have hW : withAll s.2 (arrS l x).1 = ([], 16) := by rw [hv, drop_at hq]; exact withAll_hit hw0
      case' n8 =>
       have hw0 : (withS u.2 q).2 = 0 := by simpa using hc8
       first | refine x_bin (pr_add1 (by omega)) rfl ?_ | refine x_inc ?_ | refine x_add ?_ | refine x_bin rfl rfl ?_
       refine x_rnd (u.1 + 1, (withS u.2 q).1) ⟨lt_len hq, okL_with hok (haok _ (List.mem_of_getElem? hq)), by rw [hv, drop_at hq]; exact withAll_next hw0⟩ (by (try dsimp only); have := lt_len hq; (try dsimp only); omega) rfl (x_ent (by first | rfl | (simp only [Tr.get]; simp; done)) (x_ent (by first | rfl | (simp only [Tr.get]; simp; done)) trivial)) rfl
     case' n7 =>
      have hW : withAll s.2 (arrS l x).1 = (u.2, 0) := with_end (past_end hc7) hv
 all_goals (refine x_ret ?_; simp only [fitsL, fits, C.asD, and_true] <;> (first | (rw [app_5 h5]; exact ⟨rfl, rfl⟩) | (rw [app_arr hl hx har]; exact ⟨rfl, rfl⟩) | (rw [app_with hl hx har hD, hW]; exact ⟨rfl, rfl⟩) | (rw [app_del hl hx har hD]; exact ⟨rfl, rfl⟩)))
end Go.Vm
end
section
namespace Go.Vm
open Go.RowKit Go.Proofs
set_option linter.unusedVariables false
set_option linter.unusedSimpArgs false
set_option maxRecDepth 10000

theorem right_kind {x : LensD} (h : rightL x = true) : 1 ≤ x.kind ∧ x.kind ≤ 10 := by
  by_cases h1 : x.kind = 2 ∨ x.kind = 3
  · omega
  by_cases h2 : x.kind = 8
  · omega
  by_cases h3 : x.kind = 6 ∨ x.kind = 9
  · omega
  by_cases h4 : x.kind = 7 ∨ x.kind = 10
  · omega
  by_cases h5 : x.kind = 1
  · omega
  by_cases h6 : x.kind = 4
  · omega
  by_cases h7 : x.kind = 5
  · omega
  unfold rightL at h
  rw [if_neg h1, if_neg h2, if_neg h3, if_neg h4, if_neg h5, if_neg h6, if_neg h7] at h
  simp at h
theorem refApp_5 {l : List FieldD} {x : LensD} (h : (rightS l && rightL x) = false) : applyS l x = ([], 5) := app_5 h
theorem refApp_gone {l : List FieldD} {x : LensD} {p : RefD} {k : Nat} (hl : rightS l = true) (hx : rightL x = true) (hp : (goesL x)[k]? = some p) (h : indexS l p < 0) : applyS l x = ([], 16) := by
  unfold applyS; rw [hl, hx, if_neg (by simp), if_pos (List.any_eq_true.2 ⟨p, List.mem_of_getElem? hp, by simpa using h⟩)]
theorem refApp_go {l : List FieldD} {x : LensD} (hl : rightS l = true) (hx : rightL x = true) (hall : ∀ g ∈ goesL x, ¬ indexS l g < 0) : applyS l x = if (refA (delAll l (goesL x)) (at0 (wasL l x)) (at1 (wasL l x)) x).2 = false then ([], 16) else ((refA (delAll l (goesL x)) (at0 (wasL l x)) (at1 (wasL l x)) x).1, 0) := by
  rw [← applyR_eq]; unfold applyR
  rw [hl, hx, if_neg (by simp), if_neg]
  intro h
  obtain ⟨g, hg, h⟩ := List.any_eq_true.1 h
  exact hall g hg (by simpa using h)
theorem app_16 {l m : List FieldD} {x : LensD} {R : List FieldD × Bool} (h : applyS l x = if R.2 = false then ([], 16) else (R.1, 0)) (h2 : R.2 = false) : D.row [] = D.row ((applyS l x).1.map fD) ∧ D.sc (.int .i64 16) = D.sc (.int .i64 (applyS l x).2) := by rw [h, if_pos h2]; exact ⟨rfl, rfl⟩
theorem app_0 {l m : List FieldD} {x : LensD} {R : List FieldD × Bool} (h : applyS l x = if R.2 = false then ([], 16) else (R.1, 0)) (h2 : R.2 = true) (h3 : R.1 = m) : D.row (m.map fD) = D.row ((applyS l x).1.map fD) ∧ D.sc (.int .i64 0) = D.sc (.int .i64 (applyS l x).2) := by rw [h, if_neg (by rw [h2]; simp), ← h3]; exact ⟨rfl, rfl⟩
theorem delAll_next {l : List FieldD} {rs : List RefD} {k : Nat} {p : RefD} (hp : rs[k]? = some p) : delAll l (rs.take (k + 1)) = delF (delAll l (rs.take k)) p := by
  unfold delAll; rw [take_next hp, List.foldl_append]; rfl
theorem without_step {l : List FieldD} {rs : List RefD} {k : Nat} {p : RefD} (hl : rightS l = true) (hnd : rs.Nodup) (hp : rs[k]? = some p) (h : ¬ indexS l p < 0) : (withoutS (delAll l (rs.take k)) p).1 = delAll l (rs.take (k + 1)) := by
  have hr := rightS_delAll (rs := rs.take k) hl
  have h2 : 0 ≤ indexS l p := by omega
  obtain ⟨f, hf, e⟩ := index_pos.1 h2
  have hnot : p ∉ rs.take k := by
    intro hm
    obtain ⟨j, hj, e2⟩ := List.getElem_of_mem hm
    have hjk : j < k := by rw [List.length_take] at hj; omega
    obtain ⟨hlt, e3⟩ := List.getElem?_eq_some_iff.1 hp
    rw [List.getElem_take] at e2
    have := (List.nodup_iff_pairwise_ne.1 hnd)
    rw [List.pairwise_iff_getElem] at this
    exact this j k (by omega) hlt hjk (by rw [e2, e3])
  have h3 : 0 ≤ indexS (delAll l (rs.take k)) p := index_pos.2 ⟨f, mem_delAll.2 ⟨hf, by rw [e]; exact hnot⟩, e⟩
  rw [without_ok hr (by omega), delAll_next hp]
theorem was_next {l : List FieldD} {rs : List RefD} {k : Nat} {p : RefD} (hp : rs[k]? = some p) : (rs.take (k + 1)).map (fieldAt l) = (rs.take k).map (fieldAt l) ++ [fieldAt l p] := by rw [take_next hp]; simp
theorem was_0 {l A : List FieldD} {x : LensD} (hA : A = wasL l x) (h2 : ¬ x.kind = 2) : (A.map fD)[(0 : Int).toNat]? = some (fD (at0 (wasL l x))) := by
  subst hA
  unfold wasL at0
  have : goesL x ≠ [] := by unfold goesL; simp only [h2, if_false]; (repeat' split) <;> simp
  cases h : goesL x with
  | nil => exact absurd h this
  | cons c cs => rfl
theorem was_1 {l A : List FieldD} {x : LensD} (hA : A = wasL l x) (h9 : x.kind = 9) : (A.map fD)[(1 : Int).toNat]? = some (fD (at1 (wasL l x))) := by subst hA; unfold wasL at1; rw [goes_9 h9]; rfl
theorem was_in {l : List FieldD} {x : LensD} (hall : ∀ g ∈ goesL x, ¬ indexS l g < 0) (h2 : ¬ x.kind = 2) : at0 (wasL l x) ∈ l := by
  unfold wasL at0
  have : goesL x ≠ [] := by unfold goesL; simp only [h2, if_false]; (repeat' split) <;> simp
  cases h : goesL x with
  | nil => exact absurd h this
  | cons c cs => exact (fieldAt_spec (hall c (by rw [h]; exact List.mem_cons_self ..))).1
theorem was_worth {l : List FieldD} {x : LensD} (hl : rightS l = true) (hall : ∀ g ∈ goesL x, ¬ indexS l g < 0) (h2 : ¬ x.kind = 2) : 0 ≤ (at0 (wasL l x)).worth ∧ (at0 (wasL l x)).worth ≤ 1048576 := rightF_worth (rightS_mem hl (was_in hall h2))
theorem was_ok {l : List FieldD} {x : LensD} (ho : okL l) (hall : ∀ g ∈ goesL x, ¬ indexS l g < 0) (h2 : ¬ x.kind = 2) : (at0 (wasL l x)).cases.length ≤ 1000000 := ho.2 _ (was_in hall h2)
theorem okL_put {l : List FieldD} {f : FieldD} {b : Bool} (ho : okL l) (hf : f.cases.length ≤ 1000000) : okL (putS l f b).1 := okL_with ho hf
theorem all_next {l : List FieldD} {rs : List RefD} {k : Nat} {p : RefD} (hp : rs[k]? = some p) (h : ∀ g ∈ rs.take k, ¬ indexS l g < 0) (hn : ¬ indexS l p < 0) : ∀ g ∈ rs.take (k + 1), ¬ indexS l g < 0 := by
  intro g hg
  rw [take_next hp, List.mem_append, List.mem_singleton] at hg
  rcases hg with hg | rfl
  · exact h g hg
  · exact hn

end Go.Vm
end
section
namespace Go.Vm
open Go.RowKit
set_option linter.unusedVariables false
set_option linter.unusedSimpArgs false

structure TagD where
  r : Int
  n : Int
  deriving DecidableEq
def noTag : TagD := ⟨0, 0⟩
structure EdgeD where
  id : TagD
  parent : TagD
  lens : LensD
  deriving DecidableEq
structure NodeD where
  edge : EdgeD
  state : Int
  schema : List FieldD
  depth : Int
  deriving DecidableEq
def tD (t : TagD) : D := .agg [.sc (.int .i64 t.r), .sc (.int .i64 t.n)]
def lensC (x : LensD) : List D := [.sc (.int .i64 x.kind), .sc (.int .i64 x.at_.scope), .sc (.string x.at_.group), .sc (.string x.at_.name), .sc (.string x.name), .sc (.string x.other), .sc (.int .i64 x.factor),
  .sc (.int .i64 x.field.at_.scope), .sc (.string x.field.at_.group), .sc (.string x.field.at_.name), .sc (.int .i64 x.field.kind), .sc (.string x.field.deft), .row (x.field.cases.map strD), .sc (.int .i64 x.field.worth), .row (x.forth.map pairD), .row (x.back.map pairD)]
def edgeC (e : EdgeD) : List D := .sc (.int .i64 e.id.r) :: .sc (.int .i64 e.id.n) :: .sc (.int .i64 e.parent.r) :: .sc (.int .i64 e.parent.n) :: lensC e.lens
def eD (e : EdgeD) : D := .agg (edgeC e)
def nodeC (n : NodeD) : List D := .sc (.int .i64 n.edge.id.r) :: .sc (.int .i64 n.edge.id.n) :: .sc (.int .i64 n.edge.parent.r) :: .sc (.int .i64 n.edge.parent.n) :: 
  [.sc (.int .i64 n.edge.lens.kind), .sc (.int .i64 n.edge.lens.at_.scope), .sc (.string n.edge.lens.at_.group), .sc (.string n.edge.lens.at_.name), .sc (.string n.edge.lens.name), .sc (.string n.edge.lens.other), .sc (.int .i64 n.edge.lens.factor),
  .sc (.int .i64 n.edge.lens.field.at_.scope), .sc (.string n.edge.lens.field.at_.group), .sc (.string n.edge.lens.field.at_.name), .sc (.int .i64 n.edge.lens.field.kind), .sc (.string n.edge.lens.field.deft), .row (n.edge.lens.field.cases.map strD), .sc (.int .i64 n.edge.lens.field.worth), .row (n.edge.lens.forth.map pairD), .row (n.edge.lens.back.map pairD),
  .sc (.int .i64 n.state), .row (n.schema.map fD), .sc (.int .i64 n.depth)]
def nD (n : NodeD) : D := .agg (nodeC n)
theorem lD_cells (x : LensD) : lD x = .agg (lensC x) := rfl
def noEdge : EdgeD := ⟨noTag, noTag, noLens⟩
def noNode : NodeD := ⟨noEdge, 0, [], 0⟩

theorem tD_inj {a b : TagD} (h : tD a = tD b) : a = b := by
  obtain ⟨a1, a2⟩ := a
  obtain ⟨b1, b2⟩ := b
  simp [tD] at h
  simp [h]
theorem fst_map {α β : Type} {f : α → D} {g : β → D} {l : List (α × β)} : ∀ p ∈ l.map (fun p => (f p.1, g p.2)), ∃ t, p.1 = f t := by
  intro p hp
  obtain ⟨q, _, rfl⟩ := List.mem_map.1 hp
  exact ⟨q.1, rfl⟩

/-- A list of pairs, as a map. -/
def findT {β : Type} (k : TagD) : List (TagD × β) → Option β
  | [] => none
  | p :: l => if k = p.1 then some p.2 else findT k l
def putT {β : Type} (k : TagD) (v : β) : List (TagD × β) → List (TagD × β)
  | [] => [(k, v)]
  | p :: l => if k = p.1 then (k, v) :: l else p :: putT k v l
theorem findT_map {β : Type} {g : β → D} (k : TagD) : ∀ (l : List (TagD × β)) (i : Nat), (findD (tD k) (l.map fun p => (tD p.1, g p.2)) i).map (·.2) = (findT k l).map g
  | [], _ => rfl
  | p :: l, i => by
    simp only [List.map_cons, findD, findT]
    by_cases e : k = p.1
    · rw [if_pos e, if_pos (by rw [e])]; rfl
    · rw [if_neg e, if_neg (fun h => e (tD_inj h))]; exact findT_map k l (i + 1)
theorem findT_some {β : Type} {g : β → D} (k : TagD) : ∀ (l : List (TagD × β)) (i : Nat), (findD (tD k) (l.map fun p => (tD p.1, g p.2)) i).isSome = (findT k l).isSome := by
  intro l i
  have := findT_map (g := g) k l i
  cases h1 : findD (tD k) (l.map fun p => (tD p.1, g p.2)) i <;> cases h2 : findT k l <;> simp [h1, h2] at this ⊢
theorem putT_map {β : Type} {g : β → D} (k : TagD) (v : β) : ∀ (l : List (TagD × β)), putD (tD k) (g v) (l.map fun p => (tD p.1, g p.2)) = (putT k v l).map fun p => (tD p.1, g p.2)
  | [] => rfl
  | p :: l => by
    simp only [List.map_cons, putD, putT]
    by_cases e : k = p.1
    · rw [if_pos e, if_pos (by rw [e])]; rfl
    · rw [if_neg e, if_neg (fun h => e (tD_inj h)), List.map_cons, putT_map k v l]

/-! ### What the chapter says -/
def tagB (t : TagD) : Bool := decide (1 ≤ t.r) && decide (t.r ≤ 6) && decide (1 ≤ t.n) && decide (t.n ≤ 1099511627776)
def lessT (a b : TagD) : Bool := if a.r = b.r then decide (a.n < b.n) else decide (a.r < b.r)
def edgeB (e : EdgeD) : Bool := tagB e.id && (decide (e.parent = noTag) || (tagB e.parent && !decide (e.parent = e.id))) && (decide (1 ≤ e.lens.kind) && decide (e.lens.kind ≤ 8) && rightL e.lens)
def okE (e : EdgeD) : Prop := okX e.lens
/-- The schema at the root. -/
def rootS : List FieldD := [⟨⟨0, noB, ⟨#[99, 111, 117, 112, 111, 110]⟩⟩, 2, noB, [], 0⟩, ⟨⟨1, noB, ⟨#[110, 111, 116, 101]⟩⟩, 2, noB, [], 0⟩, ⟨⟨1, noB, ⟨#[113, 116, 121]⟩⟩, 1, noB, [], 1⟩, ⟨⟨1, noB, ⟨#[115, 105, 122, 101]⟩⟩, 3, ⟨#[109, 101, 100, 105, 117, 109]⟩, [⟨#[115, 109, 97, 108, 108]⟩, ⟨#[109, 101, 100, 105, 117, 109]⟩, ⟨#[108, 97, 114, 103, 101]⟩], 0⟩, ⟨⟨1, noB, ⟨#[116, 97, 103, 115]⟩⟩, 4, noB, [], 0⟩]
/-- A tag's edge. -/
def edgeOf (E : List EdgeD) (id : TagD) : Option EdgeD := E.find? fun e => decide (e.id = id)
/-- What comes of a tag whose parent came to r. -/
def stepC (r : Int × List FieldD × Int) (x : LensD) : Int × List FieldD × Int :=
  if r.1 = 2 then (if (applyS r.2.1 x).2 = 0 then (2, (applyS r.2.1 x).1, r.2.2 + 1) else (3, [], 0)) else if r.1 = 3 then (3, [], 0) else (1, [], 0)
/-- What comes of a tag: its state, its schema, how deep it is. -/
def comes : Nat → List EdgeD → TagD → Int × List FieldD × Int
  | 0, _, _ => (1, [], 0)
  | n + 1, E, id => if id = noTag then (2, rootS, 0) else match edgeOf E id with
    | none => (0, [], 0)
    | some e => stepC (comes n E e.parent) e.lens
def pend (e : EdgeD) : NodeD := ⟨e, 1, [], 0⟩
def nodeOf (E : List EdgeD) (e : EdgeD) : NodeD := let r := comes (E.length + 1) E e.id; ⟨e, r.1, r.2.1, r.2.2⟩
def atT (l : List (TagD × NodeD)) (id : TagD) : NodeD := if id = noTag then ⟨noEdge, 2, rootS, 0⟩ else (findT id l).getD noNode
def nodesOf (E : List EdgeD) : List (TagD × NodeD) := E.map fun e => (e.id, nodeOf E e)
/-- The cells of a map from tags to nodes. -/
def ents (l : List (TagD × NodeD)) : List (D × D) := l.map fun p => (tD p.1, nD p.2)
theorem look_node (l : List (TagD × NodeD)) (k : TagD) : ((findD (tD k) (ents l) 0).map (·.2)).getD (nD noNode) = nD ((findT k l).getD noNode) := by
  unfold ents
  rw [findT_map (g := nD)]
  cases findT k l <;> rfl
theorem look_found (l : List (TagD × NodeD)) (k : TagD) : (findD (tD k) (ents l) 0).isSome = (findT k l).isSome := findT_some (g := nD) k l 0
theorem ents_keys (l : List (TagD × NodeD)) : ∀ p ∈ ents l, ∃ t : TagD, p.1 = tD t := fst_map
theorem ents_len (l : List (TagD × NodeD)) : (ents l).length = l.length := by simp [ents]
theorem ents_put (l : List (TagD × NodeD)) (k : TagD) (n : NodeD) : putD (tD k) (nD n) (ents l) = ents (putT k n l) := putT_map (g := nD) k n l
theorem at_root {l : List (TagD × NodeD)} {id : TagD} (h : id = noTag) : atT l id = ⟨noEdge, 2, rootS, 0⟩ := if_pos h
theorem at_other {l : List (TagD × NodeD)} {id : TagD} (h : ¬ id = noTag) : atT l id = (findT id l).getD noNode := if_neg h
end Go.Vm
end
section
namespace Go.Vm
open Go.RowKit Go.Proofs
set_option linter.unusedVariables false
set_option linter.unusedSimpArgs false
set_option maxRecDepth 10000

def exQ : LensD := ⟨6, ⟨1, noB, ⟨#[113, 116, 121]⟩⟩, ⟨#[117, 110, 105, 116]⟩, ⟨#[98, 111, 120]⟩, 12, noField, [], []⟩
theorem exQ_ok : okX exQ := ⟨by decide, by decide, by decide⟩
theorem rootS_ok : okL rootS := ⟨by decide, by decide⟩
theorem exQ_ap : (applyS rootS exQ).2 = 0 := by kernel_rfl
theorem exQ_len : (applyS rootS exQ).1.length = 6 := by kernel_rfl
theorem exQ_find : (findS (applyS rootS exQ).1 ⟨1, noB, ⟨#[98, 111, 120]⟩⟩).2 = 0 := by kernel_rfl
theorem exQ_worth : (findS (applyS rootS exQ).1 ⟨1, noB, ⟨#[98, 111, 120]⟩⟩).1.worth = 12 := by kernel_rfl
theorem exQ_okS : okL (applyS rootS exQ).1 := by
  have h : (applyS rootS exQ).1.all (fun f => decide (f.cases.length ≤ 1000000)) = true := by kernel_rfl
  exact ⟨by rw [exQ_len]; decide, fun f hf => by simpa using List.all_eq_true.1 h f hf⟩
-- what is heavy, and how big numbers are
def okIR (r : RefD) : Prop := inI64 r.scope
def okIF (x : FieldD) : Prop := okIR x.at_ ∧ inI64 x.kind ∧ inI64 x.worth
def okIL (x : LensD) : Prop := inI64 x.kind ∧ okIR x.at_ ∧ inI64 x.factor ∧ okIF x.field
theorem heavyP_each {l : List (ByteArray × ByteArray)} (h : heavyP l = false) : l.length ≤ 20 ∧ ∀ t ∈ l, t.1.size ≤ 200 ∧ t.2.size ≤ 200 := by
  unfold heavyP at h
  simp only [Bool.or_eq_false_iff, decide_eq_false_iff_not, List.any_eq_false, Bool.or_eq_true, decide_eq_true_eq, not_or] at h
  exact ⟨by omega, fun t ht => by have := h.2 t ht; omega⟩
theorem heavyF_okF {x : FieldD} (h : heavyF x = false) (hi : okIF x) : OkF x := by
  unfold heavyF at h
  simp only [Bool.or_eq_false_iff, decide_eq_false_iff_not, List.any_eq_false, decide_eq_true_eq] at h
  exact ⟨hi.1, by omega, by omega, hi.2.1, by omega, by omega, fun t ht => by have := h.2 t ht; omega, hi.2.2⟩
theorem heavyL_okB {x : LensD} (h : heavyL x = false) (hi : okIL x) : OkB x := by
  unfold heavyL at h
  simp only [Bool.or_eq_false_iff, decide_eq_false_iff_not] at h
  have a := heavyP_each h.1.2
  have b := heavyP_each h.2
  exact ⟨hi.1, hi.2.1, by omega, by omega, by omega, by omega, hi.2.2.1, heavyF_okF h.1.1.2 hi.2.2.2, a.1, a.2, b.1, b.2⟩
theorem textsP_wrong {f : Int} (hf : ¬ fmtF f) (l : List ByteArray) : textsP f l = [] := by
  unfold textsP; rw [List.flatMap_eq_nil_iff]; intro t _; exact textP_wrong hf t
theorem pairsP_wrong {f : Int} (hf : ¬ fmtF f) (l : List (ByteArray × ByteArray)) : pairsP f l = [] := by
  unfold pairsP pairsB; rw [putN_wrong hf, List.nil_append, List.flatMap_eq_nil_iff]; intro t _; unfold pairP; rw [textP_wrong hf, textP_wrong hf]; rfl
theorem refP_wrong {f : Int} (hf : ¬ fmtF f) (r : RefD) : refP f r = [] := by
  unfold refP; rw [putN_wrong hf, textP_wrong hf, textP_wrong hf]; rfl
theorem fieldP_wrong {f : Int} (hf : ¬ fmtF f) (x : FieldD) : fieldP f x = [] := by
  unfold fieldP; rw [refP_wrong hf, putN_wrong hf, textP_wrong hf, putN_wrong hf, textsP_wrong hf, putN_wrong hf]; rfl
theorem lensP_wrong {f : Int} (hf : ¬ fmtF f) (x : LensD) : lensP f x = [] := by
  unfold lensP; rw [putN_wrong hf, refP_wrong hf, textP_wrong hf, textP_wrong hf, putN_wrong hf, pairsP_wrong hf, pairsP_wrong hf, fieldP_wrong hf]; simp
theorem lensR_badS {b : List UInt8} {f : Int} {s : St} (h : badR f s = true) : (lensR b f s).1 = noLens ∧ badR f (lensR b f s).2 = true := lensR_bad1 (numR_badS h).2
theorem rightL_okX {x : LensD} (h : OkB x) : okX x := ⟨by have := h.field.cases; omega, by have := h.forth; omega, by have := h.back; omega⟩
-- what the program gets, and what the document gets
theorem lens_both {b : List UInt8} {f : Int} (hf : fmtF f) : (lensR b f (0, false)).1 = oL (lensO b 0 f) ∧ badR f (lensR b f (0, false)).2 = !(lensO b 0 f).isSome ∧ ((lensO b 0 f).isSome = true → leftR b f (lensR b f (0, false)).2 = (b.length : Int) - tE (lensO b 0 f)) := by
  have h := lensR_get (b := b) hf (a := 0) (Nat.zero_le _)
  cases e : lensO b 0 f with
  | none => rw [e] at h; simp only at h; exact ⟨h.1, by rw [h.2]; rfl, fun k => by cases k⟩
  | some x =>
    rw [e] at h; simp only at h; rw [h]
    have hb : badR f (x.2, false) = false := by simpa using badR_right hf (a := x.2)
    refine ⟨rfl, hb, fun _ => ?_⟩
    unfold leftR; rw [hb]; rfl
theorem lens_round {f : Int} {x : LensD} (hf : fmtF f) (h : rightL x = true) : lensR (lensP f x) f (0, false) = (x, ((lensP f x).length, false)) := by
  have h1 := lens_put hf (pre := []) (post := []) h
  have h2 := lensR_get (b := lensP f x) hf (a := 0) (Nat.zero_le _)
  simp only [List.nil_append, List.append_nil, List.length_nil, Nat.zero_add] at h1
  rw [h1] at h2
  exact h2
theorem byD_tl {a : UInt8} {l : List UInt8} : ((byD ([a] ++ l)).take (byD ([a] ++ l)).length).drop 1 = byD l := by rw [List.take_length]; rfl

set_option maxHeartbeats 1000000 in
theorem refSchemaRoot_any  : Contract Try.prog 40 [] [.d (.row (rootS.map fD))] := by
 refine T.fn [] Try.func40 ?_
 first | refine x_app ?_ (by first | exact wides | (simp [D.cells])) | refine x_appN ?_ (by first | exact wides | (simp [D.cells]))
 first | refine x_app ?_ (by first | exact wides | (simp [D.cells])) | refine x_appN ?_ (by first | exact wides | (simp [D.cells]))
 first | refine x_app ?_ (by first | exact wides | (simp [D.cells])) | refine x_appN ?_ (by first | exact wides | (simp [D.cells]))
 first | refine x_app ?_ (by first | exact wides | (simp [D.cells])) | refine x_appN ?_ (by first | exact wides | (simp [D.cells]))
 first | refine x_app ?_ (by first | exact wides | (simp [D.cells])) | refine x_appN ?_ (by first | exact wides | (simp [D.cells]))
 all_goals (refine x_ret ?_; simp only [fitsL, fits, C.asD, and_true] <;> (rfl))

set_option maxHeartbeats 1000000 in
theorem lensAwake_any  : Contract Try.prog 6 [] [.d (.sc (.bool (true)))] := by
 refine T.fn [] Try.func6 ?_
 refine x_call T.en_40 (refSchemaRoot_any) ?_
 refine x_call T.en_39 (apply_any rootS exQ rootS_ok exQ_ok) ?_
 refine x_call T.en_41 (schemaFind_any (applyS rootS exQ).1 ⟨1, noB, ⟨#[98, 111, 120]⟩⟩ exQ_okS) ?_
 refine br (fun hg1 => ?y1) (fun hg1 => ?n1)
 case' y1 =>
  refine br (fun hg2 => ?y2) (fun hg2 => ?n2)
  case' y2 =>
   refine x_len ?_
   refine br (fun hg3 => ?y3) (fun hg3 => ?n3)
   case' n3 =>
    exfalso; have h1 := exQ_ap; have h2 := exQ_find; have h3 := exQ_len; simp_all
  case' n2 =>
   exfalso; have h1 := exQ_ap; have h2 := exQ_find; simp_all
 case' n1 =>
  exact absurd exQ_ap hg1
 all_goals (refine x_ret ?_; simp only [fitsL, fits, C.asD, and_true] <;> (refine scb ?_; first | (rw [exQ_worth]; done) | (simp [exQ_worth, exQ_ap, exQ_find, exQ_len]; done) | (exfalso; have h1 := exQ_ap; have h2 := exQ_find; have h3 := exQ_len; simp_all; done)))
end Go.Vm
end
section
namespace Go.Vm
open Go.RowKit Go.Proofs
set_option linter.unusedVariables false
set_option linter.unusedSimpArgs false
set_option maxRecDepth 10000

set_option maxHeartbeats 1000000 in
theorem codeRight_any (f : Int) : Contract Try.prog 77 [.sc (.int .i64 (f))] [.d (.sc (.bool (decide (fmtF f))))] := by
 refine T.fn [] Try.func77 ?_
 refine br (fun hg1 => ?y1) (fun hg1 => ?n1)
 all_goals (refine x_ret ?_; simp only [fitsL, fits, C.asD, and_true] <;> (refine scb ?_; simp_all [fmtF]))

set_option maxHeartbeats 1000000 in
theorem codeTurn_any (n : Int) (hn : inI64 n) : Contract Try.prog 130 [.sc (.int .i64 (n))] [.d (.sc (.int .u64 ((turnN n : Nat) : Int)))] := by
 refine T.fn [] Try.func130 ?_
 refine br (fun hc1 => ?y1) (fun hc1 => ?n1)
 case' y1 =>
  refine x_conv (pr_cv Try.underlying2 Try.underlying145 (wu64 n)) rfl ?_
  refine x_bin (pr_shl (by decide) shl1) rfl ?_
  refine x_un (un_xor64 (u64_lt _)) rfl ?_
 case' n1 =>
  refine x_conv (pr_cv Try.underlying2 Try.underlying145 (wu64 n)) rfl ?_
  refine x_bin (pr_shl (by decide) shl1) rfl ?_
 all_goals (refine x_ret ?_; simp only [fitsL, fits, C.asD, and_true] <;> (first | rw [turn_neg hn (by assumption)] | rw [turn_pos hn (by assumption)]))

set_option maxHeartbeats 1000000 in
theorem codeBack_any (u : Nat) (hu : u < 18446744073709551616) : Contract Try.prog 136 [.sc (.int .u64 ((u : Nat) : Int))] [.d (.sc (.int .i64 (backN u)))] := by
 refine T.fn [] Try.func136 ?_
 refine x_bin (pr_and (and1 hu)) rfl ?_
 refine br (fun hc1 => ?y1) (fun hc1 => ?n1)
 case' y1 =>
  refine x_bin (pr_shr (by decide) (shr1 u)) rfl ?_
  refine x_conv (pr_cv Try.underlying145 Try.underlying2 (wi64s (by omega))) rfl ?_
  refine x_un (un_xori (by omega)) rfl ?_
 case' n1 =>
  refine x_bin (pr_shr (by decide) (shr1 u)) rfl ?_
  refine x_conv (pr_cv Try.underlying145 Try.underlying2 (wi64s (by omega))) rfl ?_
 all_goals (refine x_ret ?_; simp only [fitsL, fits, C.asD, and_true] <;> (first | rw [back_odd (by omega)] | rw [back_even (by omega)]))

set_option maxHeartbeats 1000000 in
theorem codeSize_any (f n : Int) (hn : inI64 n) : Contract Try.prog 129 [.sc (.int .i64 (f)), .sc (.int .i64 (n))] [.d (.sc (.int .i64 ((putN f n).length)))] := by
 refine T.fn [] Try.func129 ?_
 have hvl := vary_len (turnN n) 0 (by decide) (turn_lt hn)
 refine br (fun hc1 => ?y1) (fun hc1 => ?n1)
 case' n1 =>
  refine br (fun hc2 => ?y2) (fun hc2 => ?n2)
  case' y2 =>
   refine x_call T.en_130 (codeTurn_any _ hn) ?_
   refine x_bin (pr_shr (by decide) (shr7 _)) rfl ?_
   refine xloopR (fb := []) T.ok (Nat.le_of_ble_eq_true rfl) [] (fun (s : Nat × Nat) => [(5, .c (.d (.sc (.int .i64 ((s.1 : Nat) : Int))))), (6, .c (.d (.sc (.int .u64 ((s.2 : Nat) : Int)))))]) (fun s => s.1 + varyL s.2 = (vary (turnN n)).length ∧ s.1 ≤ 10) (fun s => s.2) (1, turnN n / 128) ⟨(vary_step _).symm, by (try dsimp only); omega⟩ (x_ent (by first | rfl | (simp only [Tr.get]; simp; done)) (x_ent (by first | rfl | (simp only [Tr.get]; simp; done)) trivial)) ?_
   rintro s ⟨hi, hs⟩
   refine br (fun hc3 => ?y3) (fun hc3 => ?n3)
   case' y3 =>
    have hpo := varyL_pos (u := s.2) (by omega)
    first | refine x_inc ?_ | refine x_add ?_ | refine x_bin rfl rfl ?_
    refine x_bin (pr_shr (by decide) (shr7 _)) rfl ?_
    refine x_rnd (s.1 + 1, s.2 / 128) ⟨by (try dsimp only); omega, by (try dsimp only); omega⟩ (by (try dsimp only); omega) rfl (x_ent (by first | rfl | (simp only [Tr.get]; simp; done)) (x_ent (by first | rfl | (simp only [Tr.get]; simp; done)) trivial)) rfl
   case' n3 =>
    have hz : s.2 = 0 := by omega
    have hv0 : varyL s.2 = 0 := by rw [hz]; rfl
 all_goals (refine x_ret ?_; simp only [fitsL, fits, C.asD, and_true] <;> (first | (rw [putN_1 (by assumption), leN_len]; rfl) | (rw [putN_2 (by assumption) (by assumption)]; congr 2; omega) | (rw [putN_0 (by assumption) (by assumption)]; rfl)))

set_option maxHeartbeats 1000000 in
theorem codePut_any (b : List UInt8) (f n : Int) (hb : b.length ≤ 16000000) (hn : inI64 n) : Contract Try.prog 111 [.row (byD b), .sc (.int .i64 (f)), .sc (.int .i64 (n))] [.own 0 5 (byD (b ++ putN f n))] := by
 refine T.fn [] Try.func111 ?_
 have hpl := putN_len f hn
 refine x_call T.en_129 (codeSize_any _ _ hn) ?_
 refine x_len ?_
 first | refine x_inc ?_ (h := by ((try simp only [byD_len, List.length_append, List.length_nil, List.length_cons, List.length_map, Int.natCast_add]); omega)) | refine x_add ?_ (h := by first | exact IntWalk.i64_in _ (by ((try simp only [byD_len, List.length_append, List.length_nil, List.length_cons, List.length_map, Int.natCast_add]); omega)) | rfl) | refine x_bin rfl rfl ?_
 refine x_make ?_ (h1 := by ((try simp only [byD_len, List.length_append, List.length_nil, List.length_cons, List.length_map, Int.natCast_add]); omega)) (h2 := by unfold maxLen; ((try simp only [byD_len, List.length_append, List.length_nil, List.length_cons, List.length_map, Int.natCast_add]); omega))
 first | refine x_app ?_ (by first | exact one_wide | exact byD_wide _) (hz := by first | exact byD_snocN (by omega) | exact byD_snoc0 (by omega) | exact byD_app _ _ | exact byD_sl (by omega) | exact rfl | rfl) (h1 := by unfold maxLen; ((try simp only [byD_len, List.length_append, List.length_nil, List.length_cons, List.length_map, Int.natCast_add]); omega)) (h2 := by ((try simp only [byD_len, List.length_append, List.length_nil, List.length_cons, List.length_map, Int.natCast_add]); omega)) | refine x_appN ?_ (by first | exact one_wide | exact byD_wide _) (h1 := by unfold maxLen; ((try simp only [byD_len, List.length_append, List.length_nil, List.length_cons, List.length_map, Int.natCast_add]); omega)) (h2 := by ((try simp only [byD_len, List.length_append, List.length_nil, List.length_cons, List.length_map, Int.natCast_add]); omega))
 refine br (fun hc1 => ?y1) (fun hc1 => ?n1)
 case' y1 =>
  refine x_conv (pr_cv Try.underlying2 Try.underlying145 (wu64 n)) rfl ?_
  refine xloopR (fb := []) T.ok (Nat.le_of_ble_eq_true rfl) [] (fun (s : Nat × Nat × List UInt8) => [(27, .c (.d (.sc (.int .i64 ((s.1 : Nat) : Int))))), (9, .c (.d (.sc (.int .u64 ((s.2.1 : Nat) : Int))))), (8, .c (.own 18 5 (byD (b ++ s.2.2))))]) (fun s => s.1 ≤ 8 ∧ s.2.2 ++ leN (8 - s.1) s.2.1 = leN 8 (u64 n)) (fun s => 8 - s.1) (0, u64 n, []) ⟨by (try dsimp only); omega, rfl⟩ (x_ent (by first | rfl | (simp only [Tr.get]; simp; done)) (x_ent (by first | rfl | (simp only [Tr.get]; simp; done)) (x_ent (by first | rfl | (simp only [Tr.get]; simp; done)) trivial))) ?_
  rintro s ⟨hk, hi⟩
  have hsl : s.2.2.length ≤ 8 := by have := congrArg List.length hi; rw [List.length_append, leN_len, leN_len] at this; omega
  refine br (fun hc2 => ?y2) (fun hc2 => ?n2)
  case' y2 =>
   refine x_conv (pr_cv Try.underlying145 Try.underlying5 (wu8m _)) rfl ?_
   first | refine x_app ?_ (by first | exact one_wide | exact byD_wide _) (hz := by first | exact byD_snocN (by omega) | exact byD_snoc0 (by omega) | exact byD_app _ _ | exact byD_sl (by omega) | exact rfl | rfl) (h1 := by unfold maxLen; ((try simp only [byD_len, List.length_append, List.length_nil, List.length_cons, List.length_map, Int.natCast_add]); omega)) (h2 := by ((try simp only [byD_len, List.length_append, List.length_nil, List.length_cons, List.length_map, Int.natCast_add]); omega)) | refine x_appN ?_ (by first | exact one_wide | exact byD_wide _) (h1 := by unfold maxLen; ((try simp only [byD_len, List.length_append, List.length_nil, List.length_cons, List.length_map, Int.natCast_add]); omega)) (h2 := by ((try simp only [byD_len, List.length_append, List.length_nil, List.length_cons, List.length_map, Int.natCast_add]); omega))
   refine x_bin (pr_shr (by decide) (shr8 _)) rfl ?_
   first | refine x_inc ?_ (h := by ((try simp only [byD_len, List.length_append, List.length_nil, List.length_cons, List.length_map, Int.natCast_add]); omega)) | refine x_add ?_ (h := by first | exact IntWalk.i64_in _ (by ((try simp only [byD_len, List.length_append, List.length_nil, List.length_cons, List.length_map, Int.natCast_add]); omega)) | rfl) | refine x_bin rfl rfl ?_
   refine x_rnd (s.1 + 1, s.2.1 / 256, s.2.2 ++ [UInt8.ofNat (s.2.1 % 256)]) ⟨by (try dsimp only); omega, le_next (by omega) hi⟩ (by (try dsimp only); omega) rfl (x_ent (by first | rfl | (simp only [Tr.get]; simp; done)) (x_ent (by first | rfl | (simp only [Tr.get]; simp; done)) (x_ent (by first | rfl | (simp only [Tr.get]; simp; done)) trivial))) rfl
  case' n2 =>
   have h8 : s.1 = 8 := by omega
   have hfi : s.2.2 = putN f n := by rw [putN_1 (by assumption), ← hi, h8]; simp [leN]
 case' n1 =>
  refine br (fun hc3 => ?y3) (fun hc3 => ?n3)
  case' y3 =>
   refine xscopeR (fb := []) T.ok (Nat.le_of_ble_eq_true rfl) [0] (fun (s : Nat × List UInt8) => 0) (fun _ => []) (fun (s : Nat × List UInt8) => [(10, .c (.d (.sc (.int .u64 ((s.1 : Nat) : Int))))), (8, .c (.own 18 5 (byD (b ++ s.2))))]) (fun (s : Nat × List UInt8) => s.2 ++ vary s.1 = vary (turnN n) ∧ s.1 < 18446744073709551616) (fun (s : Nat × List UInt8) => s.1) (fun z _ => by rfl) (by repeat (first | exact trivial | refine And.intro (fun _ => rfl) ?_)) (fun z _ => by (repeat (first | exact trivial | refine And.intro (fun _ => rfl) ?_))) ?p1 ?f1
   case' p1 =>
    rintro s ⟨hi, hu⟩
    have hvl := vary_len (turnN n) 0 (by decide) (turn_lt hn)
    have hsl : s.2.length ≤ 10 := by have := congrArg List.length hi; rw [List.length_append] at this; omega
    refine br (fun hc4 => ?y4) (fun hc4 => ?n4)
    case' y4 =>
     refine x_bin (pr_and (and127 hu)) rfl ?_
     refine x_conv (pr_cv Try.underlying145 Try.underlying5 (wu8n (by omega))) rfl ?_
     refine x_bin (pr_or (or128 (by omega))) rfl ?_
     first | refine x_app ?_ (by first | exact one_wide | exact byD_wide _) (hz := by first | exact byD_snocN (by omega) | exact byD_snoc0 (by omega) | exact byD_app _ _ | exact byD_sl (by omega) | exact rfl | rfl) (h1 := by unfold maxLen; ((try simp only [byD_len, List.length_append, List.length_nil, List.length_cons, List.length_map, Int.natCast_add]); omega)) (h2 := by ((try simp only [byD_len, List.length_append, List.length_nil, List.length_cons, List.length_map, Int.natCast_add]); omega)) | refine x_appN ?_ (by first | exact one_wide | exact byD_wide _) (h1 := by unfold maxLen; ((try simp only [byD_len, List.length_append, List.length_nil, List.length_cons, List.length_map, Int.natCast_add]); omega)) (h2 := by ((try simp only [byD_len, List.length_append, List.length_nil, List.length_cons, List.length_map, Int.natCast_add]); omega))
     refine x_bin (pr_shr (by decide) (shr7 _)) rfl ?_
     refine x_jmp (s.1 / 128, s.2 ++ [UInt8.ofNat (s.1 % 128 + 128)]) ⟨vary_next (by omega) hi, by (try dsimp only); omega⟩ rfl (by (try dsimp only [jlt, Sum.elim_inl, Sum.elim_inr]); omega) rfl (x_ent (by first | rfl | (simp only [Tr.get]; simp; done)) (x_ent (by first | rfl | (simp only [Tr.get]; simp; done)) trivial)) rfl
    case' n4 =>
     have hfi : s.2 ++ [UInt8.ofNat (s.1 % 256)] = putN f n := by rw [putN_2 (by assumption) (by assumption)]; exact vary_last (by omega) hi
     refine x_conv (pr_cv Try.underlying145 Try.underlying5 (wu8m _)) rfl ?_
     first | refine x_app ?_ (by first | exact one_wide | exact byD_wide _) (hz := by first | exact byD_snocN (by omega) | exact byD_snoc0 (by omega) | exact byD_app _ _ | exact byD_sl (by omega) | exact rfl | rfl) (h1 := by unfold maxLen; ((try simp only [byD_len, List.length_append, List.length_nil, List.length_cons, List.length_map, Int.natCast_add]); omega)) (h2 := by ((try simp only [byD_len, List.length_append, List.length_nil, List.length_cons, List.length_map, Int.natCast_add]); omega)) | refine x_appN ?_ (by first | exact one_wide | exact byD_wide _) (h1 := by unfold maxLen; ((try simp only [byD_len, List.length_append, List.length_nil, List.length_cons, List.length_map, Int.natCast_add]); omega)) (h2 := by ((try simp only [byD_len, List.length_append, List.length_nil, List.length_cons, List.length_map, Int.natCast_add]); omega))
   case' f1 =>
    skip
    refine x_call T.en_130 (codeTurn_any _ hn) ?_
    refine x_jmp (turnN n, []) ⟨rfl, turn_lt hn⟩ rfl trivial rfl (x_ent (by first | rfl | (simp only [Tr.get]; simp; done)) (x_ent (by first | rfl | (simp only [Tr.get]; simp; done)) trivial)) rfl
 all_goals (refine x_ret ?_; simp only [fitsL, fits, C.asD, and_true] <;> (refine own_fit ?_; first | (rw [hfi]; done) | (rw [putN_0 (by assumption) (by assumption)]; simp)))

set_option maxHeartbeats 1000000 in
theorem getFixed_any (b : List UInt8) (a : Nat) (hb : b.length ≤ 16000000) (ha : a ≤ b.length) : Contract Try.prog 131 [.row (byD b), .sc (.int .i64 ((a : Nat)))] [.d (.sc (.int .i64 (gN (getN b a 1)))), .d (.sc (.int .i64 (gE (getN b a 1)))), .d (.sc (.int .i64 (gC 8 (getN b a 1))))] := by
 refine T.fn [] Try.func131 ?_
 refine x_len ?_
 first | refine x_sub ?_ | refine x_bin rfl rfl ?_
 refine br (fun hc1 => ?y1) (fun hc1 => ?n1)
 case' y1 =>
  have hg := getN_1n (b := b) (a := a) (by omega)
 case' n1 =>
  have hg := getN_1 (b := b) (a := a) (by omega)
  refine xloopR (fb := []) T.ok (Nat.le_of_ble_eq_true rfl) [0, 1] (fun (s : Nat × Nat) => [(14, .c (.d (.sc (.int .i64 ((s.1 : Nat) : Int))))), (7, .c (.d (.sc (.int .u64 ((s.2 : Nat) : Int)))))]) (fun s => s.1 ≤ 8 ∧ s.2 = leV ((b.drop a).take s.1)) (fun s => 8 - s.1) (0, 0) ⟨by decide, by simp [leV]⟩ (x_ent (by first | rfl | (simp only [Tr.get]; simp; done)) (x_ent (by first | rfl | (simp only [Tr.get]; simp; done)) trivial)) ?_
  rintro s ⟨hk, hi⟩
  refine br (fun hc2 => ?y2) (fun hc2 => ?n2)
  case' y2 =>
   obtain ⟨c, hp⟩ : ∃ c, b[a + s.1]? = some c := ⟨_, List.getElem?_eq_getElem (by omega)⟩
   have hlt := fix_lt (by omega) hi
   have hro := fix_room c (by omega) hlt
   first | refine x_inc ?_ | refine x_add ?_ | refine x_bin rfl rfl ?_
   first | refine x_ix (by exact byD_at hp) ?_ | refine x_ixI (by exact byD_at hp) ?_
   refine x_conv (pr_cv Try.underlying5 Try.underlying145 (wu64n (by have := c.toNat_lt; omega))) rfl ?_
   refine x_mul (c := ((8 * s.1 : Nat) : Int)) ?_ (h := by rw [show (8 : Int) * ((s.1 : Nat) : Int) = ((8 * s.1 : Nat) : Int) by omega]; exact wi64s (by omega))
   refine x_bin (pr_shl (Int.natCast_nonneg _) (shl64 (by omega) (by omega))) rfl ?_
   refine x_bin (pr_or (or64 hlt hro)) rfl ?_
   first | refine x_inc ?_ | refine x_add ?_ | refine x_bin rfl rfl ?_
   refine x_rnd (s.1 + 1, s.2 + c.toNat * 2 ^ (8 * s.1)) ⟨by (try dsimp only); omega, fix_next hp hi⟩ (by (try dsimp only); omega) rfl (x_ent (by first | rfl | (simp only [Tr.get]; simp; done)) (x_ent (by first | rfl | (simp only [Tr.get]; simp; done)) trivial)) rfl
  case' n2 =>
   have h8 : s.1 = 8 := by omega
   rw [h8] at hi
   have hl64 : s.2 < 18446744073709551616 := by rw [hi]; exact leV8_lt _
   rw [← hi] at hg
   refine x_conv (pr_cv Try.underlying145 Try.underlying2 (wi64 hl64)) rfl ?_
   first | refine x_inc ?_ | refine x_add ?_ | refine x_bin rfl rfl ?_
 all_goals (refine x_ret ?_; simp only [fitsL, fits, C.asD, and_true] <;> (rw [hg]; first | exact ⟨rfl, rfl, rfl⟩ | simp [gN, gE, gC]))

set_option maxHeartbeats 1000000 in
theorem getVary_any (b : List UInt8) (a : Nat) (hb : b.length ≤ 16000000) (ha : a ≤ b.length) : Contract Try.prog 132 [.row (byD b), .sc (.int .i64 ((a : Nat)))] [.d (.sc (.int .i64 (gN (getN b a 2)))), .d (.sc (.int .i64 (gE (getN b a 2)))), .d (.sc (.int .i64 (gC 8 (getN b a 2))))] := by
 refine T.fn [] Try.func132 ?_
 refine xscopeR (fb := []) T.ok (Nat.le_of_ble_eq_true rfl) [0] (fun (s : Nat × Nat) => 0) (fun _ => [0, 1]) (fun (s : Nat × Nat) => [(8, .c (.d (.sc (.int .i64 ((s.1 : Nat) : Int))))), (7, .c (.d (.sc (.int .u64 ((s.2 : Nat) : Int)))))]) (fun (s : Nat × Nat) => s.1 ≤ 9 ∧ varG 0 0 (b.drop a) = varG s.1 s.2 (b.drop (a + s.1)) ∧ s.2 < 2 ^ (7 * s.1)) (fun (s : Nat × Nat) => 10 - s.1) (fun z _ => by rfl) (by repeat (first | exact trivial | refine And.intro (fun _ => rfl) ?_)) (fun z _ => by (repeat (first | exact trivial | refine And.intro (fun _ => rfl) ?_))) ?p2 ?f2
 case' p2 =>
  rintro s ⟨hk, hi, hlt⟩
  first | refine x_inc ?_ | refine x_add ?_ | refine x_bin rfl rfl ?_
  refine x_len ?_
  refine br (fun hc1 => ?y1) (fun hc1 => ?n1)
  case' y1 =>
   have hg : getN b a 2 = none := by rw [getN_2, hi, var_end (by omega)]; rfl
  case' n1 =>
   obtain ⟨c, hp⟩ : ∃ c, b[a + s.1]? = some c := ⟨_, List.getElem?_eq_getElem (by omega)⟩
   first | refine x_inc ?_ | refine x_add ?_ | refine x_bin rfl rfl ?_
   first | refine x_ix (by exact byD_at hp) ?_ | refine x_ixI (by exact byD_at hp) ?_
   refine br (fun hg2 => ?y2) (fun hg2 => ?n2)
   case' y2 =>
    refine br (fun hc3 => ?y3) (fun hc3 => ?n3)
    case' y3 =>
     have hg : getN b a 2 = none := by rw [getN_2, hi, var_at hp, if_pos (by omega)]; rfl
    case' n3 =>
     have h9 : ¬ (s.1 = 9 ∧ 1 < c.toNat) := by omega
     have hro := var_room hk hlt h9
     refine x_bin (pr_and (and127b c)) rfl ?_
     refine x_conv (pr_cv Try.underlying5 Try.underlying145 (wu64n (by omega))) rfl ?_
     refine x_mul (c := ((7 * s.1 : Nat) : Int)) ?_ (h := by rw [show (7 : Int) * ((s.1 : Nat) : Int) = ((7 * s.1 : Nat) : Int) by omega]; exact wi64s (by omega))
     refine x_bin (pr_shl (Int.natCast_nonneg _) (shl64 (by omega) hro.2.1)) rfl ?_
     refine x_bin (pr_or (or64 hlt hro.1)) rfl ?_
     first | refine x_inc ?_ | refine x_add ?_ | refine x_bin rfl rfl ?_
     refine br (fun hc4 => ?y4) (fun hc4 => ?n4)
     case' y4 =>
      refine x_jmp (s.1 + 1, s.2 + c.toNat % 128 * 2 ^ (7 * s.1)) ⟨by (try dsimp only); omega, by rw [hi, var_at hp, if_neg h9, if_pos (by omega)], hro.2.2⟩ rfl (by (try dsimp only [jlt, Sum.elim_inl, Sum.elim_inr]); omega) rfl (x_ent (by first | rfl | (simp only [Tr.get]; simp; done)) (x_ent (by first | rfl | (simp only [Tr.get]; simp; done)) trivial)) rfl
     case' n4 =>
      refine br (fun hg5 => ?y5) (fun hg5 => ?n5)
      case' y5 =>
       refine br (fun hc6 => ?y6) (fun hc6 => ?n6)
       case' y6 =>
        have hg : getN b a 2 = none := by rw [getN_2, hi, var_at hp, if_neg h9, if_neg (by omega), if_pos (by omega)]; rfl
       case' n6 =>
        have hg : getN b a 2 = some (backN (s.2 + c.toNat % 128 * 2 ^ (7 * s.1)), a + (s.1 + 1)) := by rw [getN_2, hi, var_at hp, if_neg h9, if_neg (by omega), if_neg (by omega)]; rfl
        refine x_call T.en_136 (codeBack_any _ hro.1) ?_
        first | refine x_inc ?_ | refine x_add ?_ | refine x_bin rfl rfl ?_
      case' n5 =>
       refine brF ?_
       have hg : getN b a 2 = some (backN (s.2 + c.toNat % 128 * 2 ^ (7 * s.1)), a + (s.1 + 1)) := by rw [getN_2, hi, var_at hp, if_neg h9, if_neg (by omega), if_neg (by omega)]; rfl
       refine x_call T.en_136 (codeBack_any _ hro.1) ?_
       first | refine x_inc ?_ | refine x_add ?_ | refine x_bin rfl rfl ?_
   case' n2 =>
    refine brF ?_
    have h9 : ¬ (s.1 = 9 ∧ 1 < c.toNat) := by omega
    have hro := var_room hk hlt h9
    refine x_bin (pr_and (and127b c)) rfl ?_
    refine x_conv (pr_cv Try.underlying5 Try.underlying145 (wu64n (by omega))) rfl ?_
    refine x_mul (c := ((7 * s.1 : Nat) : Int)) ?_ (h := by rw [show (7 : Int) * ((s.1 : Nat) : Int) = ((7 * s.1 : Nat) : Int) by omega]; exact wi64s (by omega))
    refine x_bin (pr_shl (Int.natCast_nonneg _) (shl64 (by omega) hro.2.1)) rfl ?_
    refine x_bin (pr_or (or64 hlt hro.1)) rfl ?_
    first | refine x_inc ?_ | refine x_add ?_ | refine x_bin rfl rfl ?_
    refine br (fun hc9 => ?y9) (fun hc9 => ?n9)
    case' y9 =>
     refine x_jmp (s.1 + 1, s.2 + c.toNat % 128 * 2 ^ (7 * s.1)) ⟨by (try dsimp only); omega, by rw [hi, var_at hp, if_neg h9, if_pos (by omega)], hro.2.2⟩ rfl (by (try dsimp only [jlt, Sum.elim_inl, Sum.elim_inr]); omega) rfl (x_ent (by first | rfl | (simp only [Tr.get]; simp; done)) (x_ent (by first | rfl | (simp only [Tr.get]; simp; done)) trivial)) rfl
    case' n9 =>
     refine br (fun hg10 => ?y10) (fun hg10 => ?n10)
     case' y10 =>
      refine br (fun hc11 => ?y11) (fun hc11 => ?n11)
      case' y11 =>
       have hg : getN b a 2 = none := by rw [getN_2, hi, var_at hp, if_neg h9, if_neg (by omega), if_pos (by omega)]; rfl
      case' n11 =>
       have hg : getN b a 2 = some (backN (s.2 + c.toNat % 128 * 2 ^ (7 * s.1)), a + (s.1 + 1)) := by rw [getN_2, hi, var_at hp, if_neg h9, if_neg (by omega), if_neg (by omega)]; rfl
       refine x_call T.en_136 (codeBack_any _ hro.1) ?_
       first | refine x_inc ?_ | refine x_add ?_ | refine x_bin rfl rfl ?_
     case' n10 =>
      refine brF ?_
      have hg : getN b a 2 = some (backN (s.2 + c.toNat % 128 * 2 ^ (7 * s.1)), a + (s.1 + 1)) := by rw [getN_2, hi, var_at hp, if_neg h9, if_neg (by omega), if_neg (by omega)]; rfl
      refine x_call T.en_136 (codeBack_any _ hro.1) ?_
      first | refine x_inc ?_ | refine x_add ?_ | refine x_bin rfl rfl ?_
 case' f2 =>
  skip
  refine x_jmp (0, 0) ⟨by decide, rfl, by decide⟩ rfl trivial rfl (x_ent (by first | rfl | (simp only [Tr.get]; simp; done)) (x_ent (by first | rfl | (simp only [Tr.get]; simp; done)) trivial)) rfl
 all_goals (refine x_ret ?_; simp only [fitsL, fits, C.asD, and_true] <;> (rw [hg]; first | exact ⟨rfl, rfl, rfl⟩ | (simp [gN, gE, gC]; done) | (simp [gN, gE, gC]; omega)))

set_option maxHeartbeats 1000000 in
theorem codeGet_any (b : List UInt8) (a : Nat) (f : Int) (hb : b.length ≤ 16000000) (ha : a ≤ b.length) : Contract Try.prog 112 [.row (byD b), .sc (.int .i64 ((a : Nat))), .sc (.int .i64 (f))] [.d (.sc (.int .i64 (gN (getN b a f)))), .d (.sc (.int .i64 (gE (getN b a f)))), .d (.sc (.int .i64 (gC (if fmtF f then 8 else 2) (getN b a f))))] := by
 refine T.fn [] Try.func112 ?_
 refine x_call T.en_77 (codeRight_any _) ?_
 refine br (fun hg1 => ?y1) (fun hg1 => ?n1)
 case' y1 =>
  refine brT ?_
  refine brT ?_
 case' n1 =>
  refine br (fun hg4 => ?y4) (fun hg4 => ?n4)
  case' y4 =>
   refine brT ?_
  case' n4 =>
   refine x_len ?_
   refine br (fun hc6 => ?y6) (fun hc6 => ?n6)
   case' n6 =>
    refine br (fun hc7 => ?y7) (fun hc7 => ?n7)
    case' y7 =>
     subst hc7
     refine x_call T.en_131 (getFixed_any b a hb ha) ?_
    case' n7 =>
     obtain rfl : f = 2 := by rcases (show f = 1 ∨ f = 2 by assumption) with h | h; exact absurd h hc7; exact h
     refine x_call T.en_132 (getVary_any b a hb ha) ?_
 all_goals (refine x_ret ?_; simp only [fitsL, fits, C.asD, and_true] <;> (first | (exfalso; omega) | (rw [if_pos (by assumption)]; simp; done) | (rw [getN_0 (by assumption), if_neg (by assumption)]; simp [gN, gE, gC]; done)))
end Go.Vm
end
section
namespace Go.Vm
open Go.RowKit Go.Proofs
set_option linter.unusedVariables false
set_option linter.unusedSimpArgs false
set_option maxRecDepth 10000

set_option maxHeartbeats 1000000 in
theorem join_any (b m : List UInt8) (hb : b.length ≤ 8000000) (hm : m.length ≤ 8000000) : Contract Try.prog 76 [.row (byD b), .row (byD m)] [.own 0 5 (byD (b ++ m))] := by
 refine T.fn [] Try.func76 ?_
 refine x_len ?_
 refine x_len ?_
 first | refine x_inc ?_ (h := by ((try simp only [byD_len, List.length_append, List.length_nil, List.length_cons, List.length_map, Int.natCast_add]); omega)) | refine x_add ?_ (h := by first | exact IntWalk.i64_in _ (by ((try simp only [byD_len, List.length_append, List.length_nil, List.length_cons, List.length_map, Int.natCast_add]); omega)) | rfl) | refine x_bin rfl rfl ?_
 refine x_make ?_ (h1 := by ((try simp only [byD_len, List.length_append, List.length_nil, List.length_cons, List.length_map, Int.natCast_add]); omega)) (h2 := by unfold maxLen; ((try simp only [byD_len, List.length_append, List.length_nil, List.length_cons, List.length_map, Int.natCast_add]); omega))
 first | refine x_app ?_ (by first | exact one_wide | exact byD_wide _) (hz := by first | exact byD_app _ _ | exact rfl | rfl) (h1 := by unfold maxLen; ((try simp only [byD_len, List.length_append, List.length_nil, List.length_cons, List.length_map, Int.natCast_add]); omega)) (h2 := by ((try simp only [byD_len, List.length_append, List.length_nil, List.length_cons, List.length_map, Int.natCast_add]); omega)) | refine x_appN ?_ (by first | exact one_wide | exact byD_wide _) (h1 := by unfold maxLen; ((try simp only [byD_len, List.length_append, List.length_nil, List.length_cons, List.length_map, Int.natCast_add]); omega)) (h2 := by ((try simp only [byD_len, List.length_append, List.length_nil, List.length_cons, List.length_map, Int.natCast_add]); omega))
 first | refine x_app ?_ (by first | exact one_wide | exact byD_wide _) (hz := by first | exact byD_app _ _ | exact rfl | rfl) (h1 := by unfold maxLen; ((try simp only [byD_len, List.length_append, List.length_nil, List.length_cons, List.length_map, Int.natCast_add]); omega)) (h2 := by ((try simp only [byD_len, List.length_append, List.length_nil, List.length_cons, List.length_map, Int.natCast_add]); omega)) | refine x_appN ?_ (by first | exact one_wide | exact byD_wide _) (h1 := by unfold maxLen; ((try simp only [byD_len, List.length_append, List.length_nil, List.length_cons, List.length_map, Int.natCast_add]); omega)) (h2 := by ((try simp only [byD_len, List.length_append, List.length_nil, List.length_cons, List.length_map, Int.natCast_add]); omega))
 all_goals (refine x_ret ?_; simp only [fitsL, fits, C.asD, and_true] <;> (exact own_fit (by first | rfl | simp [byD])))

set_option maxHeartbeats 1000000 in
theorem penNum_any (b : List UInt8) (f n : Int) (hb : b.length ≤ 8000000) (hn : inI64 n) : Contract Try.prog 65 [.row (byD b), .sc (.int .i64 (f)), .sc (.int .i64 (n))] [.own 0 5 (byD (b ++ putN f n))] := by
 refine T.fn [] Try.func65 ?_
 refine x_call T.en_111 (codePut_any b f n (by omega) hn) ?_
 all_goals (refine x_ret ?_; simp only [fitsL, fits, C.asD, and_true] <;> (exact own_fit rfl))

set_option maxHeartbeats 1000000 in
theorem penText_any (b : List UInt8) (f : Int) (x : ByteArray) (hb : b.length ≤ 7000000) (hx : x.size ≤ 1000000) : Contract Try.prog 67 [.row (byD b), .sc (.int .i64 (f)), .sc (.string x)] [.own 0 5 (byD (b ++ textP f x))] := by
 refine T.fn [] Try.func67 ?_
 have hpl := putN_len f (n := (x.size : Nat)) (by omega)
 have hxl : x.data.toList.length = x.size := rfl
 refine x_call T.en_77 (codeRight_any _) ?_
 refine br (fun hc1 => ?y1) (fun hc1 => ?n1)
 case' y1 =>
  refine x_call T.en_76 (join_any b [] (by omega) (by simp)) ?_
 case' n1 =>
  refine x_len ?_
  refine x_call T.en_111 (codePut_any [] f (x.size : Nat) (by simp) (by omega)) ?_
  refine x_appS ?_ (hz := by first | exact byD_app _ _ | exact rfl | rfl) (h1 := by unfold maxLen; ((try simp only [byD_len, List.length_append, List.length_nil, List.length_cons, List.length_map, Int.natCast_add]); omega)) (h2 := by ((try simp only [byD_len, List.length_append, List.length_nil, List.length_cons, List.length_map, Int.natCast_add]); omega))
  refine x_call T.en_76 (join_any b (([] ++ putN f (x.size : Nat)) ++ x.data.toList) (by omega) (by (try simp only [byD_len, List.length_append, List.length_nil, List.length_cons, List.length_map, Int.natCast_add]); omega)) ?_
 all_goals (refine x_ret ?_; simp only [fitsL, fits, C.asD, and_true] <;> (refine own_fit ?_; first | (rw [textP_wrong (by assumption)]; done) | (rw [textP_right (by assumption)]; simp)))

set_option maxHeartbeats 1000000 in
theorem penRef_any (b : List UInt8) (f : Int) (r : RefD) (hb : b.length ≤ 5000000) (h0 : inI64 r.scope) (h1 : r.group.size ≤ 1000000) (h2 : r.name.size ≤ 1000000) : Contract Try.prog 66 [.row (byD b), .sc (.int .i64 (f)), rD r] [.own 0 5 (byD (b ++ refP f r))] := by
 refine T.fn [] Try.func66 ?_
 have hpl := putN_len f h0
 have hl1 := textP_len f h1
 have hl2 := textP_len f h2
 refine x_call T.en_111 (codePut_any [] f r.scope (by simp) h0) ?_
 refine x_call T.en_67 (penText_any ([] ++ putN f r.scope) f r.group (by (try simp only [byD_len, List.length_append, List.length_nil, List.length_cons, List.length_map, Int.natCast_add]); omega) h1) ?_
 refine x_call T.en_67 (penText_any (([] ++ putN f r.scope) ++ textP f r.group) f r.name (by (try simp only [byD_len, List.length_append, List.length_nil, List.length_cons, List.length_map, Int.natCast_add]); omega) h2) ?_
 refine x_call T.en_76 (join_any b ((([] ++ putN f r.scope) ++ textP f r.group) ++ textP f r.name) (by omega) (by (try simp only [byD_len, List.length_append, List.length_nil, List.length_cons, List.length_map, Int.natCast_add]); omega)) ?_
 all_goals (refine x_ret ?_; simp only [fitsL, fits, C.asD, and_true] <;> (refine own_fit ?_; unfold refP; simp))

set_option maxHeartbeats 1000000 in
theorem bad_any (t : Nat) (ht : NAM ≤ t) (b : List UInt8) (f : Int) (s : Nat × Bool) (hb : b.length ≤ 16000000) (hs : s.1 ≤ b.length) : ContractH Try.prog 24 [.ptr t 0] [(t, rdS b f s)] [.d (.sc (.bool (badR f s)))] [(t, rdS b f s)] := by
 refine T.fnH [] Try.func24 ?_ (by simp only [List.forall_mem_cons, List.not_mem_nil, false_implies, implies_true, and_true]; exact ht) (by simp [thing]) (by simp [thing])
 first | refine And.intro ⟨_, Try.underlying42⟩ ?_ | refine x_bin rfl rfl ?_
 refine brF ?_
 refine x_obj ht (by first | rfl | (simp only [hOf, hset, hpost, if_true, if_false, not_false_eq_true]; first | done | rfl)) ?_
 refine br (fun hg2 => ?y2) (fun hg2 => ?n2)
 case' n2 =>
  refine x_obj ht (by first | rfl | (simp only [hOf, hset, hpost, if_true, if_false, not_false_eq_true]; first | done | rfl)) ?_
  refine x_call T.en_77 (codeRight_any _) ?_
 all_goals (refine ⟨?_, ⟨⟨ht, (by first | rfl | (simp only [hOf, hset, hpost, if_true, if_false, not_false_eq_true]; first | done | rfl))⟩, trivial⟩⟩; simp only [fitsL, fits, C.asD, and_true] <;> (refine scb ?_; unfold badR; simp_all))

set_option maxHeartbeats 1000000 in
theorem spoil_any (t : Nat) (ht : NAM ≤ t) (b : List UInt8) (f : Int) (s : Nat × Bool) (hb : b.length ≤ 16000000) (hs : s.1 ≤ b.length) : ContractH Try.prog 75 [.ptr t 0] [(t, rdS b f s)] [] [(t, rdS b f (s.1, true))] := by
 refine T.fnH [] Try.func75 ?_ (by simp only [List.forall_mem_cons, List.not_mem_nil, false_implies, implies_true, and_true]; exact ht) (by simp [thing]) (by simp [thing])
 first | refine And.intro ⟨_, Try.underlying42⟩ ?_ | refine x_bin rfl rfl ?_
 refine brT ?_
 refine x_obj ht (by first | rfl | (simp only [hOf, hset, hpost, if_true, if_false, not_false_eq_true]; first | done | rfl)) ?_
 all_goals (refine ⟨?_, ⟨⟨ht, (by first | rfl | (simp only [hOf, hset, hpost, if_true, if_false, not_false_eq_true]; first | done | rfl))⟩, trivial⟩⟩; simp only [fitsL, fits, C.asD, and_true] <;> (trivial))

set_option maxHeartbeats 1000000 in
theorem num_any (t : Nat) (ht : NAM ≤ t) (b : List UInt8) (f : Int) (s : Nat × Bool) (hb : b.length ≤ 16000000) (hs : s.1 ≤ b.length) : ContractH Try.prog 70 [.ptr t 0] [(t, rdS b f s)] [.d (.sc (.int .i64 ((numR b f s).1)))] [(t, rdS b f (numR b f s).2)] := by
 refine T.fnH [7, 28] Try.func70 ?_ (by simp only [List.forall_mem_cons, List.not_mem_nil, false_implies, implies_true, and_true]; exact ht) (by simp [thing]) (by simp [thing])
 refine x_callR T.en_24 (bad_any t ht b f s hb hs) ?_ ⟨⟨ht, (by first | rfl | (simp only [hOf, hset, hpost, if_true, if_false, not_false_eq_true]; first | done | rfl))⟩, trivial⟩
 refine br (fun hc1 => ?y1) (fun hc1 => ?n1)
 case' y1 =>
  have hR := numR_bad (b := b) hc1
  have hg : True = True := rfl
 case' n1 =>
  have hnb : ¬ badR f s = true := by rw [hc1]; decide
  refine And.intro ⟨T.mixed, by decide +kernel⟩ ?_
  refine x_obj ht (by first | rfl | (simp only [hOf, hset, hpost, if_true, if_false, not_false_eq_true]; first | done | rfl)) ?_
  refine x_obj ht (by first | rfl | (simp only [hOf, hset, hpost, if_true, if_false, not_false_eq_true]; first | done | rfl)) ?_
  refine x_obj ht (by first | rfl | (simp only [hOf, hset, hpost, if_true, if_false, not_false_eq_true]; first | done | rfl)) ?_
  refine x_call T.en_112 (codeGet_any _ _ _ hb hs) ?_
  refine br (fun hc2 => ?y2) (fun hc2 => ?n2)
  case' y2 =>
   have hg := gC_none hc2
   have hR := numR_none hnb hg
   refine x_callH T.en_75 (spoil_any t ht b f s hb hs) ?_ ⟨⟨ht, (by first | rfl | (simp only [hOf, hset, hpost, if_true, if_false, not_false_eq_true]; first | done | rfl))⟩, trivial⟩
  case' n2 =>
   obtain ⟨x, hg⟩ := gC_some (by split <;> decide) hc2
   have hR := numR_some hnb hg
   refine x_obj ht (by first | rfl | (simp only [hOf, hset, hpost, if_true, if_false, not_false_eq_true]; first | done | rfl)) ?_
 all_goals (refine ⟨?_, ⟨⟨ht, (by rw [hR]; first | rfl | (rw [hg]; done) | (rw [hg]; simp only [hOf, hset, hpost, if_true, if_false, not_false_eq_true]; first | done | rfl) | (simp only [hOf, hset, hpost, if_true, if_false, not_false_eq_true]; first | done | rfl))⟩, trivial⟩⟩; simp only [fitsL, fits, C.asD, and_true] <;> (first | (rw [hR]; done) | (rw [hR, hg]; done) | (rw [hR, hg]; rfl)))

set_option maxHeartbeats 1000000 in
theorem left_any (t : Nat) (ht : NAM ≤ t) (b : List UInt8) (f : Int) (s : Nat × Bool) (hb : b.length ≤ 16000000) (hs : s.1 ≤ b.length) : ContractH Try.prog 25 [.ptr t 0] [(t, rdS b f s)] [.d (.sc (.int .i64 (leftR b f s)))] [(t, rdS b f s)] := by
 refine T.fnH [4] Try.func25 ?_ (by simp only [List.forall_mem_cons, List.not_mem_nil, false_implies, implies_true, and_true]; exact ht) (by simp [thing]) (by simp [thing])
 refine x_callR T.en_24 (bad_any t ht b f s hb hs) ?_ ⟨⟨ht, (by first | rfl | (simp only [hOf, hset, hpost, if_true, if_false, not_false_eq_true]; first | done | rfl))⟩, trivial⟩
 refine br (fun hc1 => ?y1) (fun hc1 => ?n1)
 case' n1 =>
  refine And.intro ⟨T.mixed, by decide +kernel⟩ ?_
  refine x_obj ht (by first | rfl | (simp only [hOf, hset, hpost, if_true, if_false, not_false_eq_true]; first | done | rfl)) ?_
  refine x_len ?_
  refine x_obj ht (by first | rfl | (simp only [hOf, hset, hpost, if_true, if_false, not_false_eq_true]; first | done | rfl)) ?_
  first | refine x_sub ?_ | refine x_bin rfl rfl ?_
 all_goals (refine ⟨?_, ⟨⟨ht, (by first | rfl | (simp only [hOf, hset, hpost, if_true, if_false, not_false_eq_true]; first | done | rfl))⟩, trivial⟩⟩; simp only [fitsL, fits, C.asD, and_true] <;> (unfold leftR; simp_all))

set_option maxHeartbeats 1000000 in
theorem end_any (t : Nat) (ht : NAM ≤ t) (b : List UInt8) (f : Int) (s : Nat × Bool) (hb : b.length ≤ 16000000) (hs : s.1 ≤ b.length) : ContractH Try.prog 22 [.ptr t 0] [(t, rdS b f s)] [.d (.sc (.int .i64 ((if badR f s = true ∨ 0 < leftR b f s then 8 else 0))))] [(t, rdS b f s)] := by
 refine T.fnH [4, 7] Try.func22 ?_ (by simp only [List.forall_mem_cons, List.not_mem_nil, false_implies, implies_true, and_true]; exact ht) (by simp [thing]) (by simp [thing])
 refine x_callR T.en_24 (bad_any t ht b f s hb hs) ?_ ⟨⟨ht, (by first | rfl | (simp only [hOf, hset, hpost, if_true, if_false, not_false_eq_true]; first | done | rfl))⟩, trivial⟩
 refine br (fun hg1 => ?y1) (fun hg1 => ?n1)
 case' y1 =>
  refine brT ?_
 case' n1 =>
  refine x_callR T.en_25 (left_any t ht b f s hb hs) ?_ ⟨⟨ht, (by first | rfl | (simp only [hOf, hset, hpost, if_true, if_false, not_false_eq_true]; first | done | rfl))⟩, trivial⟩
  refine br (fun hc3 => ?y3) (fun hc3 => ?n3)
 all_goals (refine ⟨?_, ⟨⟨ht, (by first | rfl | (simp only [hOf, hset, hpost, if_true, if_false, not_false_eq_true]; first | done | rfl))⟩, trivial⟩⟩; simp only [fitsL, fits, C.asD, and_true] <;> (simp_all))

set_option maxHeartbeats 1000000 in
theorem count_any (t : Nat) (ht : NAM ≤ t) (b : List UInt8) (f : Int) (most : Int) (s : Nat × Bool) (hb : b.length ≤ 16000000) (hs : s.1 ≤ b.length) : ContractH Try.prog 113 [.ptr t 0, .sc (.int .i64 (most))] [(t, rdS b f s)] [.d (.sc (.int .i64 ((countR b f most s).1)))] [(t, rdS b f (countR b f most s).2)] := by
 refine T.fnH [7, 16] Try.func113 ?_ (by simp only [List.forall_mem_cons, List.not_mem_nil, false_implies, implies_true, and_true]; exact ht) (by simp [thing]) (by simp [thing])
 have hn := numR_inv (f := f) hs
 refine x_callH T.en_70 (num_any t ht b f s hb hs) ?_ ⟨⟨ht, (by first | rfl | (simp only [hOf, hset, hpost, if_true, if_false, not_false_eq_true]; first | done | rfl))⟩, trivial⟩
 refine br (fun hg1 => ?y1) (fun hg1 => ?n1)
 case' y1 =>
  refine brT ?_
  have hR : countR b f most s = (0, ((numR b f s).2.1, true)) := by unfold countR; rw [if_pos (by omega)]
  refine x_callH T.en_75 (spoil_any t ht b f (numR b f s).2 hb hn) ?_ ⟨⟨ht, (by first | rfl | (simp only [hOf, hset, hpost, if_true, if_false, not_false_eq_true]; first | done | rfl))⟩, trivial⟩
 case' n1 =>
  refine br (fun hc3 => ?y3) (fun hc3 => ?n3)
  case' y3 =>
   have hR : countR b f most s = (0, ((numR b f s).2.1, true)) := by unfold countR; rw [if_pos (by omega)]
   refine x_callH T.en_75 (spoil_any t ht b f (numR b f s).2 hb hn) ?_ ⟨⟨ht, (by first | rfl | (simp only [hOf, hset, hpost, if_true, if_false, not_false_eq_true]; first | done | rfl))⟩, trivial⟩
  case' n3 =>
   have hR : countR b f most s = numR b f s := by unfold countR; rw [if_neg (by omega)]
 all_goals (refine ⟨?_, ⟨⟨ht, (by rw [hR]; first | rfl | (rw [hg]; done) | (rw [hg]; simp only [hOf, hset, hpost, if_true, if_false, not_false_eq_true]; first | done | rfl) | (simp only [hOf, hset, hpost, if_true, if_false, not_false_eq_true]; first | done | rfl))⟩, trivial⟩⟩; simp only [fitsL, fits, C.asD, and_true] <;> (rw [hR]))

set_option maxHeartbeats 1000000 in
theorem text8_any (t : Nat) (ht : NAM ≤ t) (b : List UInt8) (f : Int) (most : Int) (s : Nat × Bool) (hb : b.length ≤ 16000000) (hs : s.1 ≤ b.length) : ContractH Try.prog 72 [.ptr t 0, .sc (.int .i64 (most))] [(t, rdS b f s)] [.d (.sc (.string (strL (textR b f most s).1)))] [(t, rdS b f (textR b f most s).2)] := by
 refine T.fnH [8, 19, 23, 25, 48] Try.func72 ?_ (by simp only [List.forall_mem_cons, List.not_mem_nil, false_implies, implies_true, and_true]; exact ht) (by simp [thing]) (by simp [thing])
 have hn := numR_inv (f := f) hs
 have hni := numR_in (b := b) (f := f) (s := s)
 refine x_callH T.en_70 (num_any t ht b f s hb hs) ?_ ⟨⟨ht, (by first | rfl | (simp only [hOf, hset, hpost, if_true, if_false, not_false_eq_true]; first | done | rfl))⟩, trivial⟩
 refine br (fun hg1 => ?y1) (fun hg1 => ?n1)
 case' y1 =>
  refine brT ?_
  refine brT ?_
  have hsp : spoilT b f most s = ((numR b f s).2.1, true) := by unfold spoilT; rw [if_pos (by omega)]
  refine x_callH T.en_75 (spoil_any t ht b f (numR b f s).2 hb hn) ?_ ⟨⟨ht, (by first | rfl | (simp only [hOf, hset, hpost, if_true, if_false, not_false_eq_true]; first | done | rfl))⟩, trivial⟩
  first | refine x_callR T.en_24 (bad_any t ht b f ((numR b f s).2.1, true) hb hn) ?_ ⟨⟨ht, (by first | rfl | (simp only [hOf, hset, hpost, if_true, if_false, not_false_eq_true]; first | done | rfl))⟩, trivial⟩ | refine x_callR T.en_24 (bad_any t ht b f (numR b f s).2 hb hn) ?_ ⟨⟨ht, (by first | rfl | (simp only [hOf, hset, hpost, if_true, if_false, not_false_eq_true]; first | done | rfl))⟩, trivial⟩
  refine br (fun hc4 => ?y4) (fun hc4 => ?n4)
  case' y4 =>
   have hR := textR_bad (b := b) (by rw [hsp]; exact hc4)
   rw [hsp] at hR
  case' n4 =>
   exact absurd (hc4.symm.trans badR_spoilt) (by decide)
 case' n1 =>
  refine br (fun hg5 => ?y5) (fun hg5 => ?n5)
  case' y5 =>
   refine brT ?_
   have hsp : spoilT b f most s = ((numR b f s).2.1, true) := by unfold spoilT; rw [if_pos (by omega)]
   refine x_callH T.en_75 (spoil_any t ht b f (numR b f s).2 hb hn) ?_ ⟨⟨ht, (by first | rfl | (simp only [hOf, hset, hpost, if_true, if_false, not_false_eq_true]; first | done | rfl))⟩, trivial⟩
   first | refine x_callR T.en_24 (bad_any t ht b f ((numR b f s).2.1, true) hb hn) ?_ ⟨⟨ht, (by first | rfl | (simp only [hOf, hset, hpost, if_true, if_false, not_false_eq_true]; first | done | rfl))⟩, trivial⟩ | refine x_callR T.en_24 (bad_any t ht b f (numR b f s).2 hb hn) ?_ ⟨⟨ht, (by first | rfl | (simp only [hOf, hset, hpost, if_true, if_false, not_false_eq_true]; first | done | rfl))⟩, trivial⟩
   refine br (fun hc7 => ?y7) (fun hc7 => ?n7)
   case' y7 =>
    have hR := textR_bad (b := b) (by rw [hsp]; exact hc7)
    rw [hsp] at hR
   case' n7 =>
    exact absurd (hc7.symm.trans badR_spoilt) (by decide)
  case' n5 =>
   refine x_callR T.en_25 (left_any t ht b f (numR b f s).2 hb hn) ?_ ⟨⟨ht, (by first | rfl | (simp only [hOf, hset, hpost, if_true, if_false, not_false_eq_true]; first | done | rfl))⟩, trivial⟩
   refine br (fun hc8 => ?y8) (fun hc8 => ?n8)
   case' y8 =>
    have hsp : spoilT b f most s = ((numR b f s).2.1, true) := by unfold spoilT; rw [if_pos (by omega)]
    refine x_callH T.en_75 (spoil_any t ht b f (numR b f s).2 hb hn) ?_ ⟨⟨ht, (by first | rfl | (simp only [hOf, hset, hpost, if_true, if_false, not_false_eq_true]; first | done | rfl))⟩, trivial⟩
    first | refine x_callR T.en_24 (bad_any t ht b f ((numR b f s).2.1, true) hb hn) ?_ ⟨⟨ht, (by first | rfl | (simp only [hOf, hset, hpost, if_true, if_false, not_false_eq_true]; first | done | rfl))⟩, trivial⟩ | refine x_callR T.en_24 (bad_any t ht b f (numR b f s).2 hb hn) ?_ ⟨⟨ht, (by first | rfl | (simp only [hOf, hset, hpost, if_true, if_false, not_false_eq_true]; first | done | rfl))⟩, trivial⟩
    refine br (fun hc9 => ?y9) (fun hc9 => ?n9)
    case' y9 =>
     have hR := textR_bad (b := b) (by rw [hsp]; exact hc9)
     rw [hsp] at hR
    case' n9 =>
     exact absurd (hc9.symm.trans badR_spoilt) (by decide)
   case' n8 =>
    have hsp : spoilT b f most s = (numR b f s).2 := by unfold spoilT; rw [if_neg (by omega)]
    first | refine x_callR T.en_24 (bad_any t ht b f ((numR b f s).2.1, true) hb hn) ?_ ⟨⟨ht, (by first | rfl | (simp only [hOf, hset, hpost, if_true, if_false, not_false_eq_true]; first | done | rfl))⟩, trivial⟩ | refine x_callR T.en_24 (bad_any t ht b f (numR b f s).2 hb hn) ?_ ⟨⟨ht, (by first | rfl | (simp only [hOf, hset, hpost, if_true, if_false, not_false_eq_true]; first | done | rfl))⟩, trivial⟩
    refine br (fun hc10 => ?y10) (fun hc10 => ?n10)
    case' y10 =>
     have hR := textR_bad (b := b) (by rw [hsp]; exact hc10)
     rw [hsp] at hR
    case' n10 =>
     have hnb := hc10
     replace hnb := Bool.eq_false_iff.1 hnb
     have hR := textR_ok (b := b) (by rw [hsp]; exact hnb)
     obtain ⟨_, _, hk0, hk1, hk2⟩ := spoilT_ok (b := b) (by rw [hsp]; exact hnb)
     refine x_obj ht (by first | rfl | (simp only [hOf, hset, hpost, if_true, if_false, not_false_eq_true]; first | done | rfl)) ?_
     refine x_obj ht (by first | rfl | (simp only [hOf, hset, hpost, if_true, if_false, not_false_eq_true]; first | done | rfl)) ?_
     refine x_add (c := (((numR b f s).2.1 + (numR b f s).1.toNat : Nat) : Int)) ?_ (h := by rw [show (((numR b f s).2.1 : Nat) : Int) + (numR b f s).1 = (((numR b f s).2.1 + (numR b f s).1.toNat : Nat) : Int) by omega]; exact wi64s (by omega))
     refine x_obj ht (by first | rfl | (simp only [hOf, hset, hpost, if_true, if_false, not_false_eq_true]; first | done | rfl)) ?_
     refine And.intro ⟨T.mixed, by decide +kernel⟩ ?_
     refine x_obj ht (by first | rfl | (simp only [hOf, hset, hpost, if_true, if_false, not_false_eq_true]; first | done | rfl)) ?_
     refine x_obj ht (by first | rfl | (simp only [hOf, hset, hpost, if_true, if_false, not_false_eq_true]; first | done | rfl)) ?_
     first | refine x_bnd ?_ | refine x_bndI ?_
     first | refine x_bnd ?_ | refine x_bndI ?_
     refine x_row ?_ (by first | exact one_wide | exact byD_wide _) (h1 := by ((try simp only [byD_len, List.length_append, List.length_nil, List.length_cons, List.length_map, Int.natCast_add]); omega)) (h2 := by ((try simp only [byD_len, List.length_append, List.length_nil, List.length_cons, List.length_map, Int.natCast_add]); omega)) (hy := by first | exact byD_sl (n := (numR b f s).1.toNat) (by omega) | exact rfl | rfl)
     refine q_tostr Try.underlying39 Try.underlying5 Try.underlying9 (l := (b.drop (numR b f s).2.1).take (numR b f s).1.toNat) ?_
 all_goals (refine ⟨?_, ⟨⟨ht, (by rw [hR]; first | rfl | (rw [hg]; done) | (rw [hg]; simp only [hOf, hset, hpost, if_true, if_false, not_false_eq_true]; first | done | rfl) | (simp only [hOf, hset, hpost, if_true, if_false, not_false_eq_true]; first | done | rfl))⟩, trivial⟩⟩; simp only [fitsL, fits, C.asD, and_true] <;> (rw [hR]))

set_option maxHeartbeats 1000000 in
theorem ref8_any (t : Nat) (ht : NAM ≤ t) (b : List UInt8) (f : Int) (s : Nat × Bool) (hb : b.length ≤ 16000000) (hs : s.1 ≤ b.length) : ContractH Try.prog 71 [.ptr t 0] [(t, rdS b f s)] [.d (rD (refR b f s).1)] [(t, rdS b f (refR b f s).2)] := by
 refine T.fnH [5, 8, 11, 14] Try.func71 ?_ (by simp only [List.forall_mem_cons, List.not_mem_nil, false_implies, implies_true, and_true]; exact ht) (by simp [thing]) (by simp [thing])
 have hn := numR_inv (f := f) hs
 have hn2 := textR_inv (f := f) (most := 12) hn
 have hn3 := textR_inv (f := f) (most := 12) hn2
 refine x_callH T.en_70 (num_any t ht b f s hb hs) ?_ ⟨⟨ht, (by first | rfl | (simp only [hOf, hset, hpost, if_true, if_false, not_false_eq_true]; first | done | rfl))⟩, trivial⟩
 refine x_callH T.en_72 (text8_any t ht b f 12 (numR b f s).2 hb hn) ?_ ⟨⟨ht, (by first | rfl | (simp only [hOf, hset, hpost, if_true, if_false, not_false_eq_true]; first | done | rfl))⟩, trivial⟩
 refine x_callH T.en_72 (text8_any t ht b f 12 (textR b f 12 (numR b f s).2).2 hb hn2) ?_ ⟨⟨ht, (by first | rfl | (simp only [hOf, hset, hpost, if_true, if_false, not_false_eq_true]; first | done | rfl))⟩, trivial⟩
 refine x_callR T.en_24 (bad_any t ht b f (textR b f 12 (textR b f 12 (numR b f s).2).2).2 hb hn3) ?_ ⟨⟨ht, (by first | rfl | (simp only [hOf, hset, hpost, if_true, if_false, not_false_eq_true]; first | done | rfl))⟩, trivial⟩
 refine br (fun hc1 => ?y1) (fun hc1 => ?n1)
 all_goals (refine ⟨?_, ⟨⟨ht, (by first | rfl | (simp only [hOf, hset, hpost, if_true, if_false, not_false_eq_true]; first | done | rfl))⟩, trivial⟩⟩; simp only [fitsL, fits, C.asD, and_true] <;> (unfold refR; simp only; first | (rw [if_pos (by assumption)]; rfl) | (rw [if_neg (by simp_all)]; rfl)))

set_option maxHeartbeats 1000000 in
theorem penNew_any (t : Nat) (ht : NAM ≤ t) (b : List UInt8) (f : Int) (hb : b.length ≤ 8000000) : ContractH Try.prog 20 [.row (byD b), .sc (.int .i64 (f))] [(t, .free)] [.d (.ptr t 0)] [(t, rdS b f (0, !decide (fmtF f)))] := by
 refine T.fnH [12] Try.func20 ?_ (by simp only [List.forall_mem_cons, List.not_mem_nil, false_implies, implies_true, and_true]; exact ht) (by simp [thing]) (by simp [thing])
 refine x_call T.en_76 (join_any b [] hb (by simp)) ?_
 refine x_call T.en_77 (codeRight_any _) ?_
 refine x_newbox t ?_ ⟨ht, (by first | rfl | (simp only [hOf, hset, hpost, if_true, if_false, not_false_eq_true]; first | done | rfl))⟩
 all_goals (refine ⟨?_, ⟨⟨ht, by first | rfl | (simp only [hOf, hset, hpost, if_true, if_false, not_false_eq_true, List.append_nil]; first | done | rfl)⟩, trivial⟩⟩; simp only [fitsL, fits, C.asD, and_true] <;> (trivial))
end Go.Vm
end
section
namespace Go.Vm
open Go.RowKit Go.Proofs
set_option linter.unusedVariables false
set_option linter.unusedSimpArgs false
set_option maxRecDepth 10000

set_option maxHeartbeats 1000000 in
theorem fieldPut_any (b : List UInt8) (f : Int) (x : FieldD) (hb : b.length ≤ 1000000) (h : OkF x) : Contract Try.prog 69 [.row (byD b), .sc (.int .i64 (f)), fD x] [.own 0 5 (byD (b ++ fieldP f x))] := by
 refine T.fn [] Try.func69 ?_
 have hl1 := refP_len (f := f) h.scope h.group h.name
 have hl2 := putN_len f h.kind
 have hl3 := textP_len f (s := x.deft) (by have := h.deft; omega)
 have hl4 := putN_len f (n := (x.cases.length : Nat)) (by have := h.cases; omega)
 have hl5 := putN_len f h.worth
 have hd := h.deft
 have hcl := h.cases
 refine x_call T.en_66 (penRef_any [] f x.at_ (by simp) h.scope (by have := h.group; omega) (by have := h.name; omega)) ?_
 refine x_call T.en_65 (penNum_any ([] ++ refP f x.at_) f x.kind (by (try simp only [byD_len, List.length_append, List.length_nil, List.length_cons, List.length_map, Int.natCast_add]); omega) h.kind) ?_
 refine x_call T.en_67 (penText_any (([] ++ refP f x.at_) ++ putN f x.kind) f x.deft (by (try simp only [byD_len, List.length_append, List.length_nil, List.length_cons, List.length_map, Int.natCast_add]); omega) (by omega)) ?_
 refine x_len ?_
 refine x_call T.en_65 (penNum_any ((([] ++ refP f x.at_) ++ putN f x.kind) ++ textP f x.deft) f (x.cases.length : Nat) (by (try simp only [byD_len, List.length_append, List.length_nil, List.length_cons, List.length_map, Int.natCast_add]); omega) (by omega)) ?_
 refine x_len ?_
 refine xloopR (fb := []) T.ok (Nat.le_of_ble_eq_true rfl) [0, 1, 5, 32, 33] (fun (k : Nat) => [(34, .c (.d (.sc (.int .i64 (k : Nat))))), (7, .c (.own 30 5 (byD ((((([] ++ refP f x.at_) ++ putN f x.kind) ++ textP f x.deft) ++ putN f (x.cases.length : Nat)) ++ textsP f (x.cases.take k)))))]) (fun k => k ≤ x.cases.length) (fun k => x.cases.length - k) 0 (Nat.zero_le _) (x_ent (by first | rfl | (simp only [Tr.get]; simp; done)) (x_ent (by simp only [Tr.get]; simp [textsP, pairsB]) trivial)) ?_
 rintro k hk
 have htl := textsP_takeL (f := f) (k := k) h.cases h.each
 refine br (fun hc1 => ?y1) (fun hc1 => ?n1)
 case' y1 =>
  obtain ⟨p, hp⟩ := elem_at hc1
  have hkl := lt_len hp
  have hps := h.each p (List.mem_of_getElem? hp)
  have hpl := textP_len f (s := p) (by omega)
  first | refine x_ix (by exact mapAt hp) ?_ | refine x_ixI (by exact mapAt hp) ?_
  refine x_call T.en_67 (penText_any [] f p (by simp) (by omega)) ?_
  first | refine x_app ?_ (by first | exact one_wide | exact byD_wide _) (hz := by first | exact byD_app _ _ | exact rfl | rfl) (h1 := by unfold maxLen; ((try simp only [byD_len, List.length_append, List.length_nil, List.length_cons, List.length_map, Int.natCast_add]); omega)) (h2 := by ((try simp only [byD_len, List.length_append, List.length_nil, List.length_cons, List.length_map, Int.natCast_add]); omega)) | refine x_appN ?_ (by first | exact one_wide | exact byD_wide _) (h1 := by unfold maxLen; ((try simp only [byD_len, List.length_append, List.length_nil, List.length_cons, List.length_map, Int.natCast_add]); omega)) (h2 := by ((try simp only [byD_len, List.length_append, List.length_nil, List.length_cons, List.length_map, Int.natCast_add]); omega))
  first | refine x_inc ?_ (h := by ((try simp only [byD_len, List.length_append, List.length_nil, List.length_cons, List.length_map, Int.natCast_add]); omega)) | refine x_add ?_ (h := by first | exact IntWalk.i64_in _ (by ((try simp only [byD_len, List.length_append, List.length_nil, List.length_cons, List.length_map, Int.natCast_add]); omega)) | rfl) | refine x_bin rfl rfl ?_
  refine x_rnd (k + 1) (lt_len hp) (by (try dsimp only); have := lt_len hp; omega) rfl (x_ent (by first | rfl | (simp only [Tr.get]; simp; done)) (x_ent (by simp only [Tr.get]; rw [textsP_take hp]; simp) trivial)) rfl
 case' n1 =>
  have hend : x.cases.take k = x.cases := List.take_of_length_le (past_end hc1)
  refine x_call T.en_65 (penNum_any ((((([] ++ refP f x.at_) ++ putN f x.kind) ++ textP f x.deft) ++ putN f (x.cases.length : Nat)) ++ textsP f (x.cases.take k)) f x.worth (by (try simp only [byD_len, List.length_append, List.length_nil, List.length_cons, List.length_map, Int.natCast_add]); omega) h.worth) ?_
  refine x_len ?_
  refine x_len ?_
  refine x_add ?_ (h := IntWalk.i64_in _ (by (try simp only [byD_len, List.length_append, List.length_nil, List.length_cons, List.length_map, Int.natCast_add]); omega))
  refine x_make ?_ (h1 := by ((try simp only [byD_len, List.length_append, List.length_nil, List.length_cons, List.length_map, Int.natCast_add]); omega)) (h2 := by unfold maxLen; ((try simp only [byD_len, List.length_append, List.length_nil, List.length_cons, List.length_map, Int.natCast_add]); omega))
  first | refine x_app ?_ (by first | exact one_wide | exact byD_wide _) (hz := by first | exact byD_app _ _ | exact rfl | rfl) (h1 := by unfold maxLen; ((try simp only [byD_len, List.length_append, List.length_nil, List.length_cons, List.length_map, Int.natCast_add]); omega)) (h2 := by ((try simp only [byD_len, List.length_append, List.length_nil, List.length_cons, List.length_map, Int.natCast_add]); omega)) | refine x_appN ?_ (by first | exact one_wide | exact byD_wide _) (h1 := by unfold maxLen; ((try simp only [byD_len, List.length_append, List.length_nil, List.length_cons, List.length_map, Int.natCast_add]); omega)) (h2 := by ((try simp only [byD_len, List.length_append, List.length_nil, List.length_cons, List.length_map, Int.natCast_add]); omega))
  first | refine x_app ?_ (by first | exact one_wide | exact byD_wide _) (hz := by first | exact byD_app _ _ | exact rfl | rfl) (h1 := by unfold maxLen; ((try simp only [byD_len, List.length_append, List.length_nil, List.length_cons, List.length_map, Int.natCast_add]); omega)) (h2 := by ((try simp only [byD_len, List.length_append, List.length_nil, List.length_cons, List.length_map, Int.natCast_add]); omega)) | refine x_appN ?_ (by first | exact one_wide | exact byD_wide _) (h1 := by unfold maxLen; ((try simp only [byD_len, List.length_append, List.length_nil, List.length_cons, List.length_map, Int.natCast_add]); omega)) (h2 := by ((try simp only [byD_len, List.length_append, List.length_nil, List.length_cons, List.length_map, Int.natCast_add]); omega))
 all_goals (refine x_ret ?_; simp only [fitsL, fits, C.asD, and_true] <;> (refine own_fit ?_; rw [hend]; unfold fieldP; simp [byD]))

set_option maxHeartbeats 1000000 in
theorem putPairs_any (b : List UInt8) (f : Int) (l : List (ByteArray × ByteArray)) (hb : b.length ≤ 1000000) (hl : l.length ≤ 20) (h : ∀ t ∈ l, t.1.size ≤ 200 ∧ t.2.size ≤ 200) : Contract Try.prog 68 [.row (byD b), .sc (.int .i64 (f)), .row (l.map pairD)] [.own 0 5 (byD (b ++ pairsP f l))] := by
 refine T.fn [] Try.func68 ?_
 have hl4 := putN_len f (n := (l.length : Nat)) (by omega)
 refine x_len ?_
 refine x_call T.en_65 (penNum_any b f (l.length : Nat) (by omega) (by omega)) ?_
 refine x_len ?_
 refine xloopR (fb := []) T.ok (Nat.le_of_ble_eq_true rfl) [1, 14, 15] (fun (k : Nat) => [(16, .c (.d (.sc (.int .i64 (k : Nat))))), (0, .c (.own 13 5 (byD ((b ++ putN f (l.length : Nat)) ++ pairsB f (l.take k)))))]) (fun k => k ≤ l.length) (fun k => l.length - k) 0 (Nat.zero_le _) (x_ent (by first | rfl | (simp only [Tr.get]; simp; done)) (x_ent (by simp only [Tr.get]; simp [textsP, pairsB]) trivial)) ?_
 rintro k hk
 have htl := pairsB_takeL (f := f) (k := k) hl h
 refine br (fun hc1 => ?y1) (fun hc1 => ?n1)
 case' y1 =>
  obtain ⟨p, hp⟩ := elem_at hc1
  have hkl := lt_len hp
  have hps := h p (List.mem_of_getElem? hp)
  have hpl := textP_len f (s := p.1) (by omega)
  have hpl2 := textP_len f (s := p.2) (by omega)
  first | refine x_ix (by exact mapAt hp) ?_ | refine x_ixI (by exact mapAt hp) ?_
  refine x_call T.en_67 (penText_any [] f p.1 (by simp) (by omega)) ?_
  first | refine x_app ?_ (by first | exact one_wide | exact byD_wide _) (hz := by first | exact byD_app _ _ | exact rfl | rfl) (h1 := by unfold maxLen; ((try simp only [byD_len, List.length_append, List.length_nil, List.length_cons, List.length_map, Int.natCast_add]); omega)) (h2 := by ((try simp only [byD_len, List.length_append, List.length_nil, List.length_cons, List.length_map, Int.natCast_add]); omega)) | refine x_appN ?_ (by first | exact one_wide | exact byD_wide _) (h1 := by unfold maxLen; ((try simp only [byD_len, List.length_append, List.length_nil, List.length_cons, List.length_map, Int.natCast_add]); omega)) (h2 := by ((try simp only [byD_len, List.length_append, List.length_nil, List.length_cons, List.length_map, Int.natCast_add]); omega))
  refine x_call T.en_67 (penText_any [] f p.2 (by simp) (by omega)) ?_
  first | refine x_app ?_ (by first | exact one_wide | exact byD_wide _) (hz := by first | exact byD_app _ _ | exact rfl | rfl) (h1 := by unfold maxLen; ((try simp only [byD_len, List.length_append, List.length_nil, List.length_cons, List.length_map, Int.natCast_add]); omega)) (h2 := by ((try simp only [byD_len, List.length_append, List.length_nil, List.length_cons, List.length_map, Int.natCast_add]); omega)) | refine x_appN ?_ (by first | exact one_wide | exact byD_wide _) (h1 := by unfold maxLen; ((try simp only [byD_len, List.length_append, List.length_nil, List.length_cons, List.length_map, Int.natCast_add]); omega)) (h2 := by ((try simp only [byD_len, List.length_append, List.length_nil, List.length_cons, List.length_map, Int.natCast_add]); omega))
  first | refine x_inc ?_ (h := by ((try simp only [byD_len, List.length_append, List.length_nil, List.length_cons, List.length_map, Int.natCast_add]); omega)) | refine x_add ?_ (h := by first | exact IntWalk.i64_in _ (by ((try simp only [byD_len, List.length_append, List.length_nil, List.length_cons, List.length_map, Int.natCast_add]); omega)) | rfl) | refine x_bin rfl rfl ?_
  refine x_rnd (k + 1) (lt_len hp) (by (try dsimp only); have := lt_len hp; omega) rfl (x_ent (by first | rfl | (simp only [Tr.get]; simp; done)) (x_ent (by simp only [Tr.get]; rw [pairsB_take hp]; simp) trivial)) rfl
 case' n1 =>
  have hend : l.take k = l := List.take_of_length_le (past_end hc1)
 all_goals (refine x_ret ?_; simp only [fitsL, fits, C.asD, and_true] <;> (refine own_fit ?_; rw [hend]; unfold pairsP; simp [byD]))

set_option maxHeartbeats 1000000 in
theorem lensPut_any (b : List UInt8) (f : Int) (x : LensD) (hb : b.length ≤ 1000000) (h : OkB x) : Contract Try.prog 18 [.row (byD b), .sc (.int .i64 (f)), lD x] [.own 0 5 (byD (b ++ lensP f x))] := by
 refine T.fn [] Try.func18 ?_
 have hl0 := putN_len f h.kind
 have hl1 := refP_len (f := f) h.scope h.group h.rname
 have hl2 := textP_len f (s := x.name) (by have := h.name; omega)
 have hl3 := textP_len f (s := x.other) (by have := h.other; omega)
 have hl4 := putN_len f h.factor
 have hl5 := pairsP_len (f := f) h.forth h.feach
 have hl6 := pairsP_len (f := f) h.back h.beach
 have hl7 := fieldP_len (f := f) h.field
 have hd1 := h.name
 have hd2 := h.other
 refine x_call T.en_65 (penNum_any [] f x.kind (by simp) h.kind) ?_
 refine x_call T.en_66 (penRef_any ([] ++ putN f x.kind) f x.at_ (by (try simp only [byD_len, List.length_append, List.length_nil, List.length_cons, List.length_map, Int.natCast_add]); omega) h.scope (by have := h.group; omega) (by have := h.rname; omega)) ?_
 refine x_call T.en_67 (penText_any (([] ++ putN f x.kind) ++ refP f x.at_) f x.name (by (try simp only [byD_len, List.length_append, List.length_nil, List.length_cons, List.length_map, Int.natCast_add]); omega) (by omega)) ?_
 refine x_call T.en_67 (penText_any ((([] ++ putN f x.kind) ++ refP f x.at_) ++ textP f x.name) f x.other (by (try simp only [byD_len, List.length_append, List.length_nil, List.length_cons, List.length_map, Int.natCast_add]); omega) (by omega)) ?_
 refine x_call T.en_65 (penNum_any (((([] ++ putN f x.kind) ++ refP f x.at_) ++ textP f x.name) ++ textP f x.other) f x.factor (by (try simp only [byD_len, List.length_append, List.length_nil, List.length_cons, List.length_map, Int.natCast_add]); omega) h.factor) ?_
 refine x_call T.en_68 (putPairs_any ((((([] ++ putN f x.kind) ++ refP f x.at_) ++ textP f x.name) ++ textP f x.other) ++ putN f x.factor) f x.forth (by (try simp only [byD_len, List.length_append, List.length_nil, List.length_cons, List.length_map, Int.natCast_add]); omega) h.forth h.feach) ?_
 refine x_call T.en_68 (putPairs_any (((((([] ++ putN f x.kind) ++ refP f x.at_) ++ textP f x.name) ++ textP f x.other) ++ putN f x.factor) ++ pairsP f x.forth) f x.back (by (try simp only [byD_len, List.length_append, List.length_nil, List.length_cons, List.length_map, Int.natCast_add]); omega) h.back h.beach) ?_
 refine br (fun hg1 => ?y1) (fun hg1 => ?n1)
 case' y1 =>
  refine brT ?_
  refine x_call T.en_69 (fieldPut_any [] f x.field (by simp) h.field) ?_
  first | refine x_app ?_ (by first | exact one_wide | exact byD_wide _) (hz := by first | exact byD_app _ _ | exact rfl | rfl) (h1 := by unfold maxLen; ((try simp only [byD_len, List.length_append, List.length_nil, List.length_cons, List.length_map, Int.natCast_add]); omega)) (h2 := by ((try simp only [byD_len, List.length_append, List.length_nil, List.length_cons, List.length_map, Int.natCast_add]); omega)) | refine x_appN ?_ (by first | exact one_wide | exact byD_wide _) (h1 := by unfold maxLen; ((try simp only [byD_len, List.length_append, List.length_nil, List.length_cons, List.length_map, Int.natCast_add]); omega)) (h2 := by ((try simp only [byD_len, List.length_append, List.length_nil, List.length_cons, List.length_map, Int.natCast_add]); omega))
  refine x_len ?_
  refine x_len ?_
  refine x_add ?_ (h := IntWalk.i64_in _ (by (try simp only [byD_len, List.length_append, List.length_nil, List.length_cons, List.length_map, Int.natCast_add]); omega))
  refine x_make ?_ (h1 := by ((try simp only [byD_len, List.length_append, List.length_nil, List.length_cons, List.length_map, Int.natCast_add]); omega)) (h2 := by unfold maxLen; ((try simp only [byD_len, List.length_append, List.length_nil, List.length_cons, List.length_map, Int.natCast_add]); omega))
  first | refine x_app ?_ (by first | exact one_wide | exact byD_wide _) (hz := by first | exact byD_app _ _ | exact rfl | rfl) (h1 := by unfold maxLen; ((try simp only [byD_len, List.length_append, List.length_nil, List.length_cons, List.length_map, Int.natCast_add]); omega)) (h2 := by ((try simp only [byD_len, List.length_append, List.length_nil, List.length_cons, List.length_map, Int.natCast_add]); omega)) | refine x_appN ?_ (by first | exact one_wide | exact byD_wide _) (h1 := by unfold maxLen; ((try simp only [byD_len, List.length_append, List.length_nil, List.length_cons, List.length_map, Int.natCast_add]); omega)) (h2 := by ((try simp only [byD_len, List.length_append, List.length_nil, List.length_cons, List.length_map, Int.natCast_add]); omega))
  first | refine x_app ?_ (by first | exact one_wide | exact byD_wide _) (hz := by first | exact byD_app _ _ | exact rfl | rfl) (h1 := by unfold maxLen; ((try simp only [byD_len, List.length_append, List.length_nil, List.length_cons, List.length_map, Int.natCast_add]); omega)) (h2 := by ((try simp only [byD_len, List.length_append, List.length_nil, List.length_cons, List.length_map, Int.natCast_add]); omega)) | refine x_appN ?_ (by first | exact one_wide | exact byD_wide _) (h1 := by unfold maxLen; ((try simp only [byD_len, List.length_append, List.length_nil, List.length_cons, List.length_map, Int.natCast_add]); omega)) (h2 := by ((try simp only [byD_len, List.length_append, List.length_nil, List.length_cons, List.length_map, Int.natCast_add]); omega))
 case' n1 =>
  refine br (fun hc3 => ?y3) (fun hc3 => ?n3)
  case' y3 =>
   refine x_call T.en_69 (fieldPut_any [] f x.field (by simp) h.field) ?_
   first | refine x_app ?_ (by first | exact one_wide | exact byD_wide _) (hz := by first | exact byD_app _ _ | exact rfl | rfl) (h1 := by unfold maxLen; ((try simp only [byD_len, List.length_append, List.length_nil, List.length_cons, List.length_map, Int.natCast_add]); omega)) (h2 := by ((try simp only [byD_len, List.length_append, List.length_nil, List.length_cons, List.length_map, Int.natCast_add]); omega)) | refine x_appN ?_ (by first | exact one_wide | exact byD_wide _) (h1 := by unfold maxLen; ((try simp only [byD_len, List.length_append, List.length_nil, List.length_cons, List.length_map, Int.natCast_add]); omega)) (h2 := by ((try simp only [byD_len, List.length_append, List.length_nil, List.length_cons, List.length_map, Int.natCast_add]); omega))
   refine x_len ?_
   refine x_len ?_
   refine x_add ?_ (h := IntWalk.i64_in _ (by (try simp only [byD_len, List.length_append, List.length_nil, List.length_cons, List.length_map, Int.natCast_add]); omega))
   refine x_make ?_ (h1 := by ((try simp only [byD_len, List.length_append, List.length_nil, List.length_cons, List.length_map, Int.natCast_add]); omega)) (h2 := by unfold maxLen; ((try simp only [byD_len, List.length_append, List.length_nil, List.length_cons, List.length_map, Int.natCast_add]); omega))
   first | refine x_app ?_ (by first | exact one_wide | exact byD_wide _) (hz := by first | exact byD_app _ _ | exact rfl | rfl) (h1 := by unfold maxLen; ((try simp only [byD_len, List.length_append, List.length_nil, List.length_cons, List.length_map, Int.natCast_add]); omega)) (h2 := by ((try simp only [byD_len, List.length_append, List.length_nil, List.length_cons, List.length_map, Int.natCast_add]); omega)) | refine x_appN ?_ (by first | exact one_wide | exact byD_wide _) (h1 := by unfold maxLen; ((try simp only [byD_len, List.length_append, List.length_nil, List.length_cons, List.length_map, Int.natCast_add]); omega)) (h2 := by ((try simp only [byD_len, List.length_append, List.length_nil, List.length_cons, List.length_map, Int.natCast_add]); omega))
   first | refine x_app ?_ (by first | exact one_wide | exact byD_wide _) (hz := by first | exact byD_app _ _ | exact rfl | rfl) (h1 := by unfold maxLen; ((try simp only [byD_len, List.length_append, List.length_nil, List.length_cons, List.length_map, Int.natCast_add]); omega)) (h2 := by ((try simp only [byD_len, List.length_append, List.length_nil, List.length_cons, List.length_map, Int.natCast_add]); omega)) | refine x_appN ?_ (by first | exact one_wide | exact byD_wide _) (h1 := by unfold maxLen; ((try simp only [byD_len, List.length_append, List.length_nil, List.length_cons, List.length_map, Int.natCast_add]); omega)) (h2 := by ((try simp only [byD_len, List.length_append, List.length_nil, List.length_cons, List.length_map, Int.natCast_add]); omega))
  case' n3 =>
   refine x_len ?_
   refine x_len ?_
   refine x_add ?_ (h := IntWalk.i64_in _ (by (try simp only [byD_len, List.length_append, List.length_nil, List.length_cons, List.length_map, Int.natCast_add]); omega))
   refine x_make ?_ (h1 := by ((try simp only [byD_len, List.length_append, List.length_nil, List.length_cons, List.length_map, Int.natCast_add]); omega)) (h2 := by unfold maxLen; ((try simp only [byD_len, List.length_append, List.length_nil, List.length_cons, List.length_map, Int.natCast_add]); omega))
   first | refine x_app ?_ (by first | exact one_wide | exact byD_wide _) (hz := by first | exact byD_app _ _ | exact rfl | rfl) (h1 := by unfold maxLen; ((try simp only [byD_len, List.length_append, List.length_nil, List.length_cons, List.length_map, Int.natCast_add]); omega)) (h2 := by ((try simp only [byD_len, List.length_append, List.length_nil, List.length_cons, List.length_map, Int.natCast_add]); omega)) | refine x_appN ?_ (by first | exact one_wide | exact byD_wide _) (h1 := by unfold maxLen; ((try simp only [byD_len, List.length_append, List.length_nil, List.length_cons, List.length_map, Int.natCast_add]); omega)) (h2 := by ((try simp only [byD_len, List.length_append, List.length_nil, List.length_cons, List.length_map, Int.natCast_add]); omega))
   first | refine x_app ?_ (by first | exact one_wide | exact byD_wide _) (hz := by first | exact byD_app _ _ | exact rfl | rfl) (h1 := by unfold maxLen; ((try simp only [byD_len, List.length_append, List.length_nil, List.length_cons, List.length_map, Int.natCast_add]); omega)) (h2 := by ((try simp only [byD_len, List.length_append, List.length_nil, List.length_cons, List.length_map, Int.natCast_add]); omega)) | refine x_appN ?_ (by first | exact one_wide | exact byD_wide _) (h1 := by unfold maxLen; ((try simp only [byD_len, List.length_append, List.length_nil, List.length_cons, List.length_map, Int.natCast_add]); omega)) (h2 := by ((try simp only [byD_len, List.length_append, List.length_nil, List.length_cons, List.length_map, Int.natCast_add]); omega))
 all_goals (refine x_ret ?_; simp only [fitsL, fits, C.asD, and_true] <;> (refine own_fit ?_; unfold lensP; first | (rw [if_pos (by omega)]; simp [byD]; done) | (rw [if_neg (by omega)]; simp [byD]; done)))
end Go.Vm
end
section
namespace Go.Vm
open Go.RowKit
set_option linter.unusedVariables false
set_option linter.unusedSimpArgs false

def allocK : List (Nat × Nat × Nat) → Tr → (Tr → Prop) → Prop
  | [], t, K => K t
  | q :: l, t, K => allocK l t fun t => setK 20 t q.2.1 (.gbox q.2.2 []) K
theorem allocK_spec : ∀ {ps : List (Nat × Nat × Nat)} {t : Tr} {K : Tr → Prop}, allocK ps t K → ∃ t', (∀ u, t'.get u = match ps.find? fun q => q.2.1 == u with
    | some q => .gbox q.2.2 []
    | none => t.get u) ∧ K t'
  | [], t, K, h => ⟨t, fun _ => rfl, h⟩
  | q :: l, t, K, h => by
    obtain ⟨t1, h1, h2⟩ := allocK_spec (ps := l) h
    obtain ⟨t2, h3, h4⟩ := setK_spec h2
    refine ⟨t2, fun u => ?_, h4⟩
    rw [h3, h1, List.find?_cons]
    by_cases e : u = q.2.1
    · subst e; simp
    · have : (q.2.1 == u) = false := by simpa using fun e2 => e e2.symm
      simp [this, e]

section
variable {P : Program} {N : Nat} {t : Tr} {h : Hp} {o : Oper}
theorem x_allocU {T d : Nat} {zs : List D} (ps : List (Nat × Nat × Nat)) {K : Tr → Hp → Prop} (hz : zeroOf P T = some zs) (hps : ∀ q ∈ ps, zs[q.1]? = some (.row []) ∧ BIG ≤ q.2.1 ∧ 0 < q.2.2) (hlo : ∀ q ∈ ps, q.2.1 < NAM)
    (hk : mapK (unrefK d) t fun t1 => setK 20 t1 d (.ubox (ucells zs ps)) fun t2 => allocK ps t2 fun t3 => K t3 h)
    (hop : o.op = .alloc T := by rfl) (hd : o.dst = some d := by rfl) (hdN : d < N := by exact Nat.le_of_ble_eq_true rfl) (hNB : N ≤ BIG := by exact Nat.le_of_ble_eq_true rfl) :
    StepP P N o (envT t h) fun e => ∃ (t' : Tr) (h' : Hp), e = envT t' h' ∧ K t' h' := by
  refine stepP_of ?_
  have hdB : d < BIG := Nat.lt_of_lt_of_le hdN hNB
  obtain ⟨t1, k1, hk⟩ := mapK_spec (f := unref d) rfl unrefK_spec hk
  obtain ⟨t2, k2, hk⟩ := setK_spec hk
  obtain ⟨t3, k3, hk⟩ := allocK_spec hk
  refine ⟨t3, h, ?_, hk⟩
  have e : envT t3 h = envG ps (upd (boxEnv (envT t h) d zs) (some d) (.ubox (ucells zs ps))) := by
    funext u
    unfold envG
    by_cases hu : u < NAM
    · rw [envT_lt hu, k3]
      cases hf : ps.find? fun q => q.2.1 == u with
      | some q => rfl
      | none =>
        simp only
        rw [k2, k1]
        simp only [upd, boxEnv]
        by_cases ed : u = d
        · simp [ed]
        · simp only [if_neg ed]; rw [envT_lt hu]
    · have hf : (ps.find? fun q => q.2.1 == u) = none := by
        rw [List.find?_eq_none]
        intro q hq
        have := hlo q hq
        simp only [beq_iff_eq]; omega
      rw [hf]
      have hne : ¬ u = d := by have := nam hdB; omega
      simp only [upd, boxEnv, if_neg hne]
      simp only [envT, if_neg hu]
      exact (nameS_unref _).symm
  rw [e]
  exact s_allocU hop hz hps hd hdN hdB
theorem x_buildU {T d : Nat} {parts : Array (Nat × Operand)} {zs : List D} {ps : List (Nat × Nat)} (us : List (Nat × Nat × Nat)) {K : Tr → Hp → Prop} (hi : tyOk P T (.agg ps zs)) (hus : ∀ q ∈ us, zs[q.1]? = some (.row []) ∧ BIG ≤ q.2.1 ∧ 0 < q.2.2) (hlo : ∀ q ∈ us, q.2.1 < NAM)
    (hk : fillK t ps parts.toList (ucells zs us) fun cs => setK 20 t d (.uagg cs) fun t2 => allocK us t2 fun t3 => K t3 h)
    (hop : o.op = .build T parts := by rfl) (hd : o.dst = some d := by rfl) (hdN : d < N := by exact Nat.le_of_ble_eq_true rfl) (hNB : N ≤ BIG := by exact Nat.le_of_ble_eq_true rfl) :
    StepP P N o (envT t h) fun e => ∃ (t' : Tr) (h' : Hp), e = envT t' h' ∧ K t' h' := by
  refine stepP_of ?_
  have hdB : d < BIG := Nat.lt_of_lt_of_le hdN hNB
  obtain ⟨ds, cs, h1, h2, hk⟩ := fillK_spec (h := h) hk
  obtain ⟨t2, k2, hk⟩ := setK_spec hk
  obtain ⟨t3, k3, hk⟩ := allocK_spec hk
  refine ⟨t3, h, ?_, hk⟩
  have e : envT t3 h = envG us (upd (envT t h) (some d) (.uagg cs)) := by
    funext u
    unfold envG
    by_cases hu : u < NAM
    · rw [envT_lt hu, k3]
      cases hf : us.find? fun q => q.2.1 == u with
      | some q => rfl
      | none =>
        simp only
        rw [k2]
        simp only [upd]
        by_cases ed : u = d
        · simp [ed]
        · simp only [if_neg ed]; rw [envT_lt hu]
    · have hf : (us.find? fun q => q.2.1 == u) = none := by
        rw [List.find?_eq_none]
        intro q hq
        have := hlo q hq
        simp only [beq_iff_eq]; omega
      rw [hf]
      have hne : ¬ u = d := by have := nam hdB; omega
      simp only [upd, if_neg hne]
      simp only [envT, if_neg hu]
  rw [e]
  obtain ⟨_, hp, hz⟩ := hi
  unfold placesOf at hp
  split at hp
  · rename_i fields hT
    exact s_buildU hop hT hp hz hus h1 h2 hd hdN
  · cases hp
theorem calm_appG (env : Env) (id d : Nat) (s g : S) (h1 : nb s = true) (h2 : ∀ a b, s ≠ .ref a b) (h3 : nb g = true) (h4 : ∀ a b, g ≠ .ref a b) : CalmE env (appG env id d s g) := by
  intro t
  simp only [appG]
  split
  · exact ⟨fun a b e => absurd e (h2 a b), fun _ => h1⟩
  · split
    · exact ⟨fun a b e => absurd e (h4 a b), fun _ => h3⟩
    · refine ⟨fun a b e => ?_, fun e => ?_⟩
      · cases hs : env t <;> rw [hs] at e <;> simp only [dropG] at e <;> first | (cases e; done) | (split at e <;> first | (cases e; done) | exact e)
      · cases hs : env t <;> rw [hs] at e <;> simp only [dropG] <;> first | rfl | (cases e; done) | (split <;> rfl)
/-- An append that stands alone. -/
theorem b_appG {T e : TypeId} {sz bytes id n d m : Nat} {x y : Operand} {xs ys zs : List D} {K : Tr → Hp → Prop} (hT : elemFull P T = some (e, sz, bytes))
    (hx : vget (envT t h) x = .sref id sz n) (hg : t.get id = .gbox sz xs) (hy : vd (envT t h) y = some (.row ys)) (hn : xs.length = n) (hw : ∀ y ∈ ys, y.cells.length = sz) (h63 : n + ys.length ≤ maxLen) (hby : (n + ys.length) * bytes ≤ 140737488355328) (hz : xs ++ ys = zs) (hm : n + ys.length = m)
    (hk : mapK (dropGK id) t fun t1 => setK 20 t1 id (.gbox sz zs) fun t2 => setK 20 t2 d (.sref id sz m) fun t3 => K t3 h)
    (hop : o.op = .call { callee := .builtin .append, args := #[x, y], argTypes := #[T, T] } := by rfl) (hd : o.dst = some d := by rfl) (hdN : d < N := by exact Nat.le_of_ble_eq_true rfl) (hNB : N ≤ BIG := by exact Nat.le_of_ble_eq_true rfl) (hid : BIG ≤ id := by exact Nat.le_of_ble_eq_true rfl) (hid2 : id < NAM := by exact Nat.le_of_ble_eq_true rfl) :
    ∃ (t' : Tr) (h' : Hp), (Step P N o (envT t h) (envT t' h') ∧ CalmE (envT t h) (envT t' h')) ∧ K t' h' := by
  subst hz hm
  obtain ⟨t1, k1, hk⟩ := mapK_spec (f := dropG id) rfl dropGK_spec hk
  obtain ⟨t2, k2, hk⟩ := setK_spec hk
  obtain ⟨t3, k3, hk⟩ := setK_spec hk
  have hdB : d < BIG := Nat.lt_of_lt_of_le hdN hNB
  refine ⟨t3, h, ⟨?_, ?_⟩, hk⟩
  · rw [envT_appG (nam hdB) hid2 (by omega) k1 k2 k3]; exact s_appendG hop hT hx (at_row hid2 hg) hn hy hw h63 hby hd hdN hdB
  · rw [envT_appG (nam hdB) hid2 (by omega) k1 k2 k3]
    exact calm_appG _ _ _ _ _ rfl (by simp) rfl (by simp)
/-- From now on nobody writes the row that stands at id: the variable holds data (at a move). -/
theorem x_frU {tv id sz d : Nat} {x : Operand} {cs cs' xs : List D} {K : Tr → Hp → Prop} (htv : t.get tv = .ubox cs) (hg : t.get id = .gbox sz xs) (hcs : cs.map (frzC id xs) = cs') (hp : cs'.all plainD = true)
    (hk : mapK (dropGK id) t fun t1 => setK 20 t1 id (.gbox sz []) fun t2 => setK 20 t2 tv (.box cs') fun t3 => ovK t3 x fun s => sK s fun s => setK 20 t3 d s fun t4 => K t4 h)
    (hop : o.op = .move x ∨ o.op = .assign x := by first | exact .inl rfl | exact .inr rfl) (hd : o.dst = some d := by rfl) (hdN : d < N := by exact Nat.le_of_ble_eq_true rfl) (hNB : N ≤ BIG := by exact Nat.le_of_ble_eq_true rfl) (hid : BIG ≤ id := by exact Nat.le_of_ble_eq_true rfl) (hid2 : id < NAM := by exact Nat.le_of_ble_eq_true rfl) (htB : tv < BIG := by exact Nat.le_of_ble_eq_true rfl) :
    StepP P N o (envT t h) fun e => ∃ (t' : Tr) (h' : Hp), e = envT t' h' ∧ K t' h' := by
  obtain ⟨t1, k1, hk⟩ := mapK_spec (f := dropG id) rfl dropGK_spec hk
  obtain ⟨t2, k2, hk⟩ := setK_spec hk
  obtain ⟨t3, k3, hk⟩ := setK_spec hk
  have hk := sK_spec (ovK_spec (h := h) hk)
  obtain ⟨t4, k4, hk⟩ := setK_spec hk
  have hdB : d < BIG := Nat.lt_of_lt_of_le hdN hNB
  have hst : Step P N o (envT t3 h) (upd (envT t3 h) (some d) (vget (envT t3 h) x)) := by
    rcases hop with hop | hop
    · have := (y_move (P := P) (N := N) (env := envT t3 h) hop rfl hd hdN).step; rwa [hd] at this
    · have := (y_assign (P := P) (N := N) (env := envT t3 h) hop rfl hd hdN).step; rwa [hd] at this
  intro base w0 ro0 a w ⟨ro, blk, hs⟩ K' Q hK'
  obtain ⟨ro', hs2⟩ := hs.freezeU (tv := tv) (id := id) (sz := sz) (cs := cs) (xs := xs) (by rw [envT_lt (nam htB)]; exact htv) (at_row hid2 hg) htB hid
  rw [hcs.symm] at hp k3
  have hs3 := hs2.plainU (tv := tv) (cs := cs.map (frzC id xs)) (by simp [frzE]) hp
  have e : envT t3 h = upd (frzE tv id sz cs xs (envT t h)) (some tv) (.box (cs.map (frzC id xs))) := by
    funext u
    simp only [upd, frzE]
    by_cases hu : u < NAM
    · rw [envT_lt hu, k3, k2, k1]
      by_cases e1 : u = tv
      · simp [e1]
      · simp only [if_neg e1]
        by_cases e2 : u = id
        · simp [e2]
        · simp only [if_neg e2]; rw [envT_lt hu]
    · have h1 : ¬ u = tv := by have := nam htB; omega
      have h2 : ¬ u = id := by omega
      simp only [if_neg h1, if_neg h2, envT, if_neg hu]
      exact (nameS_dropG _).symm
  rw [← e] at hs3
  refine hst base w0 ro0 a w ⟨ro', blk, hs3⟩ K' Q fun a' w' hs' => hK' _ _ _ ⟨t4, h, ?_, hk⟩ hs'
  rw [envT_set (nam hdB) k4]
def chgOf (pre post : List (Nat × S)) : Nat → Option S := fun t => match post.find? fun p => p.1 == t with
  | some p => some p.2
  | none => if nameIn pre t then some .junk else none
theorem chgOf_app (pre post : List (Nat × S)) (env : Env) : chgE (chgOf pre post) env = setH pre post env := by
  funext t
  unfold chgE chgOf setH
  cases post.find? fun p => p.1 == t with
  | some p => rfl
  | none => simp only; split <;> rfl
/-- A call that writes things, in a region of whatever order. -/
theorem q_callH {ops : Array Oper} {fb : List Nat} {f : FuncId} {xs : Array Operand} {ts : Array TypeId} {ds : List D} {res : List C} {d : Nat} {pre post : List (Nat × S)} {K : S → Hp → Prop} (he : enters P f = true) (hc : ContractH P f ds pre res post) (hK : K (resS (res.map (setTok d))) (hpost h post)) (hpre : preOk h pre)
    (hl : ∀ p ∈ pre, live p.2 = true := by simp [live]) (hq : ∀ p ∈ post, live p.2 = true ∧ nameIn pre p.1 = true := by simp [live, nameIn]) (hall : ∀ p ∈ pre, nameIn post p.1 = true := by simp [nameIn]) (hnb : nb (resS (res.map (setTok d))) = true := by rfl) (hnr : ∀ a b, resS (res.map (setTok d)) ≠ .ref a b := by intro a b e; cases e)
    (hop : o.op = .call { callee := .value (.func f), args := xs, argTypes := ts } := by rfl) (hx : vargs (envT t h) xs.toList = some ds := by rfl) (hd : o.dst = some d := by rfl) (hdN : d < N := by exact Nat.le_of_ble_eq_true rfl) (hNB : N ≤ BIG := by exact Nat.le_of_ble_eq_true rfl) (hg : guardOk ops o (envT t h) = some true := by rfl) (hcl : Nat.beq (clsOf fb o) 2 = true := by rfl) :
    ∃ (eff : Eff) (s : S) (h' : Hp), (DG P N fb ops o (envT t h) eff ∧ eff.app (envT t h) = upd (envT t h') (some d) s) ∧ K s h' := by
  have hp := preOk_spec hpre
  have hpe := pre_env (t := t) hpre (fun p hm => .inl (hl p hm))
  have hbig : ∀ p ∈ post, NAM ≤ p.1 := fun p hm => by
    obtain ⟨s, hs⟩ := nameIn_mem (hq p hm).2
    exact (hp _ hs).1
  have hlv : ∀ s, live s = true → nb s = true ∧ ∀ a b, s ≠ .ref a b := fun s hs => by
    cases s <;> first | (cases hs; done) | exact ⟨rfl, by simp⟩
  refine ⟨.named (some d) (resS (res.map (setTok d))) (chgOf pre post), _, _, ⟨⟨⟨hd.symm, hnb, hnr, Nat.eq_of_beq_eq_true hcl, fun u r hu => ?_⟩, fun x t' off ha _ => by simp [addrOf, hop] at ha, .inl ⟨hg, fun env' ha _ => ?_⟩, fun u hu => by injection hu with hu; exact hu ▸ Nat.lt_of_lt_of_le hdN hNB⟩, ?_⟩, hK⟩
  · unfold chgOf at hu
    cases hf : post.find? fun p => p.1 == u with
    | some p =>
      rw [hf] at hu; injection hu with hu; subst hu
      have hm := List.mem_of_find?_eq_some hf
      have h2 := List.find?_some hf
      simp only [beq_iff_eq] at h2
      exact ⟨h2 ▸ hbig p hm, hlv _ (hq p hm).1⟩
    | none =>
      rw [hf] at hu
      simp only at hu
      split at hu
      · rename_i hn
        injection hu with hu; subst hu
        obtain ⟨s, hs⟩ := nameIn_mem hn
        exact ⟨(hp _ hs).1, rfl, by simp⟩
      · cases hu
  · have ha' := ha.all (by rw [Nat.eq_of_beq_eq_true hcl]; decide)
    have hn : ∀ p ∈ pre, env' p.1 = p.2 := fun p hm => (ha'.2.2 p.1 (Nat.le_trans (by decide) (hp p hm).1)).trans (hpe p hm).1
    have hx' : vargs env' xs.toList = some ds := by
      rw [← hx]
      exact vargs_agree fun x hm => ha'.getD (by simp only [hop, Op.operands, Call.operands]; simp; exact .inr (by simpa using hm))
    have := s_callH (N := N) (env := env') hop he hx' hc (fun p hm => ⟨hn p hm, .inl (hl p hm)⟩) (fun p hm => ⟨(hq p hm).1, (hq p hm).2, Nat.le_trans (by decide) (hbig p hm)⟩) hd hdN hNB
    show Step P N o env' (upd (chgE (chgOf pre post) env') (some d) _)
    rw [chgOf_app]; exact this
  · show upd (chgE (chgOf pre post) (envT t h)) (some d) _ = _
    rw [chgOf_app, setH_env hpre hq hall]
end
end Go.Vm
end
section
namespace Go.Vm
open Go.RowKit Go.Proofs
set_option linter.unusedVariables false
set_option linter.unusedSimpArgs false
set_option maxRecDepth 10000

theorem pairL_snoc {b : List UInt8} {f : Int} {k : Nat} {s : St} : ((pairL b f k s).1.map pairD) ++ [pairD (strL (textR b f 12 (pairL b f k s).2).1, strL (textR b f 12 (textR b f 12 (pairL b f k s).2).2).1)] = (pairL b f (k + 1) s).1.map pairD := by rw [pairL]; simp

set_option maxHeartbeats 1000000 in
theorem fieldGet_any (t : Nat) (ht : NAM ≤ t) (b : List UInt8) (f : Int) (s : Nat × Bool) (hb : b.length ≤ 16000000) (hs : s.1 ≤ b.length) : ContractH Try.prog 74 [.ptr t 0] [(t, rdS b f s)] [.d (fD (fieldR b f s).1)] [(t, rdS b f (fieldR b f s).2)] := by
 refine T.fnH [5, 8, 11, 14, 26, 29, 36, 1022, 2003, 2022, 2025, 4020, 6017, 6018] Try.func74 ?_ (by simp only [List.forall_mem_cons, List.not_mem_nil, false_implies, implies_true, and_true]; exact ht) (by simp [thing]) (by simp [thing])
 have h1 := fs1_inv (f := f) hs
 have h2 := fs2_inv (f := f) hs
 have h3 := fs3_inv (f := f) hs
 have h4 := fs4_inv (f := f) hs
 have h5 := fs5_inv (f := f) hs
 have h6 := fs6_inv (f := f) hs
 refine x_allocU [(5, 500003, 1)] (zI_ok (T.ok 26 _ rfl) rfl) (by simp only [List.mem_singleton, forall_eq]; exact ⟨rfl, by decide, by decide⟩) (by simp only [List.mem_singleton, forall_eq]; decide) ?_
 refine x_callH T.en_71 (ref8_any t ht b f s hb hs) ?_ ⟨⟨ht, (by first | rfl | (simp only [hOf, hset, hpost, if_true, if_false, not_false_eq_true]; first | done | rfl))⟩, trivial⟩
 refine x_callH T.en_70 (num_any t ht b f (fs1 b f s) hb h1) ?_ ⟨⟨ht, (by first | rfl | (simp only [hOf, hset, hpost, if_true, if_false, not_false_eq_true]; first | done | rfl))⟩, trivial⟩
 refine x_callH T.en_72 (text8_any t ht b f 40 (fs2 b f s) hb h2) ?_ ⟨⟨ht, (by first | rfl | (simp only [hOf, hset, hpost, if_true, if_false, not_false_eq_true]; first | done | rfl))⟩, trivial⟩
 refine x_callH T.en_113 (count_any t ht b f 6 (fs3 b f s) hb h3) ?_ ⟨⟨ht, (by first | rfl | (simp only [hOf, hset, hpost, if_true, if_false, not_false_eq_true]; first | done | rfl))⟩, trivial⟩
 refine xloop (fb := [5, 8, 11, 14, 26, 29, 36, 1022, 2003, 2022, 2025, 4020, 6017, 6018]) T.ok (Nat.le_of_ble_eq_true rfl) [0, 2, 14] (fun (k : Nat) => [(15, .c (.d (.sc (.int .i64 (k : Nat))))), (3, .ubox [.sc (.int .i64 (refR b f s).1.scope), .sc (.string (refR b f s).1.group), .sc (.string (refR b f s).1.name), .sc (.int .i64 (numR b f (fs1 b f s)).1), .sc (.string (strL (textR b f 40 (fs2 b f s)).1)), .rr 500003 1 k, .sc (.int .i64 0)]), (500003, .gbox 1 ((textsR b f k (fs4 b f s)).1.map strD))]) (fun k => hset (hOf [(t, rdS b f s)]) t (rdS b f (textsR b f k (fs4 b f s)).2)) (fun k => k ≤ fsn b f s) (fun k => fsn b f s - k) 0 (Nat.zero_le _) (x_ent (by first | rfl | (simp only [Tr.get]; simp; done)) (x_ent (by first | rfl | (simp only [Tr.get]; simp; done)) (x_ent (by first | rfl | (simp only [Tr.get]; simp; done)) trivial))) (by simp only [hpost, hset_hset]; first | done | rfl) ?_
 rintro k hk
 have hk5 := textsR_inv (f := f) h4 k
 have hn6 := fsn_le (b := b) (f := f) (s := s)
 have hcn := countR_le (b := b) (f := f) (most := 6) (s := fs3 b f s) (by decide)
 have hfn : ((fsn b f s : Nat) : Int) = (countR b f 6 (fs3 b f s)).1 := by unfold fsn; omega
 refine br (fun hc1 => ?y1) (fun hc1 => ?n1)
 case' y1 =>
  refine And.intro ⟨T.mixed, by decide +kernel⟩ ?_
  refine q_callH T.en_72 (text8_any t ht b f 12 (textsR b f k (fs4 b f s)).2 hb hk5) ?_ ⟨⟨ht, (by first | rfl | (simp only [hOf, hset, hpost, if_true, if_false, not_false_eq_true]; first | done | rfl))⟩, trivial⟩
  refine b_appG (id := 500003) (n := k) (xs := (textsR b f k (fs4 b f s)).1.map strD) (ys := [strD (strL (textR b f 12 (textsR b f k (fs4 b f s)).2).1)]) (zs := (textsR b f (k + 1) (fs4 b f s)).1.map strD) (m := k + 1) (T.ok 24 _ rfl).2.1 rfl rfl rfl (by simp [textsR_len]) (by simp [D.cells, strD]) (by simp only [List.length_cons, List.length_nil]; unfold maxLen; omega) (by simp only [List.length_cons, List.length_nil]; omega) (by rw [textsR]; simp) rfl ?_
  first | refine x_inc ?_ (h := by (omega)) | refine x_add ?_ (h := by first | exact IntWalk.i64_in _ (by (omega)) | rfl) | refine x_bin rfl rfl ?_
  refine x_rnd (k + 1) (by omega) (by (try dsimp only); omega) rfl (x_ent (by first | rfl | (simp only [Tr.get]; simp; done)) (x_ent (by first | rfl | (simp only [Tr.get]; simp; done)) (x_ent (by first | rfl | (simp only [Tr.get]; simp; done)) trivial))) (by simp only [hpost, hset_hset]; first | done | rfl)
 case' n1 =>
  obtain rfl : k = fsn b f s := by omega
  refine x_frU (tv := 3) (id := 500003) (cs' := [.sc (.int .i64 (refR b f s).1.scope), .sc (.string (refR b f s).1.group), .sc (.string (refR b f s).1.name), .sc (.int .i64 (numR b f (fs1 b f s)).1), .sc (.string (strL (textR b f 40 (fs2 b f s)).1)), .row ((textsR b f (fsn b f s) (fs4 b f s)).1.map strD), .sc (.int .i64 0)]) rfl rfl (by simp [frzC, textsR_len]) rfl ?_
  refine x_callH T.en_70 (num_any t ht b f (fs5 b f s) hb h5) ?_ ⟨⟨ht, (by first | rfl | (simp only [hOf, hset, hpost, if_true, if_false, not_false_eq_true]; first | done | rfl))⟩, trivial⟩
  refine x_callR T.en_24 (bad_any t ht b f (fs6 b f s) hb h6) ?_ ⟨⟨ht, (by first | rfl | (simp only [hOf, hset, hpost, if_true, if_false, not_false_eq_true]; first | done | rfl))⟩, trivial⟩
  refine br (fun hg2 => ?y2) (fun hg2 => ?n2)
  case' y2 =>
   refine brT ?_
   have hR : fieldR b f s = (noField, ((fs6 b f s).1, true)) := by unfold fieldR; rw [if_pos (by simp_all)]
   refine x_callH T.en_75 (spoil_any t ht b f (fs6 b f s) hb h6) ?_ ⟨⟨ht, (by first | rfl | (simp only [hOf, hset, hpost, if_true, if_false, not_false_eq_true]; first | done | rfl))⟩, trivial⟩
  case' n2 =>
   refine x_call T.en_52 (fieldRight_any (fieldV b f s) (by have := fieldV_len (b := b) (f := f) (s := s); omega)) ?_
   refine br (fun hc4 => ?y4) (fun hc4 => ?n4)
   case' y4 =>
    have hR : fieldR b f s = (noField, ((fs6 b f s).1, true)) := by unfold fieldR; rw [if_pos (by simp_all)]
    refine x_callH T.en_75 (spoil_any t ht b f (fs6 b f s) hb h6) ?_ ⟨⟨ht, (by first | rfl | (simp only [hOf, hset, hpost, if_true, if_false, not_false_eq_true]; first | done | rfl))⟩, trivial⟩
   case' n4 =>
    have hR : fieldR b f s = (fieldV b f s, fs6 b f s) := by unfold fieldR; rw [if_neg (by simp_all)]
 all_goals (refine ⟨?_, ⟨⟨ht, (by rw [hR]; first | rfl | (rw [hg]; done) | (rw [hg]; simp only [hOf, hset, hpost, if_true, if_false, not_false_eq_true]; first | done | rfl) | (simp only [hOf, hset, hpost, if_true, if_false, not_false_eq_true]; first | done | rfl))⟩, trivial⟩⟩; simp only [fitsL, fits, C.asD, and_true] <;> (rw [hR]; rfl))

set_option maxHeartbeats 1000000 in
theorem getPairs_any (t : Nat) (ht : NAM ≤ t) (b : List UInt8) (f : Int) (s : Nat × Bool) (hb : b.length ≤ 16000000) (hs : s.1 ≤ b.length) : ContractH Try.prog 73 [.ptr t 0] [(t, rdS b f s)] [.d (.row ((pairsR b f s).1.map pairD))] [(t, rdS b f (pairsR b f s).2)] := by
 refine T.fnH [8, 13, 15] Try.func73 ?_ (by simp only [List.forall_mem_cons, List.not_mem_nil, false_implies, implies_true, and_true]; exact ht) (by simp [thing]) (by simp [thing])
 have hc := countR_inv (f := f) (most := 6) hs
 have hcn := countR_le (b := b) (f := f) (most := 6) (s := s) (by decide)
 refine x_callH T.en_113 (count_any t ht b f 6 s hb hs) ?_ ⟨⟨ht, (by first | rfl | (simp only [hOf, hset, hpost, if_true, if_false, not_false_eq_true]; first | done | rfl))⟩, trivial⟩
 refine xnil 4 500004 38 rfl (by decide) (by decide +kernel) ?_
 refine xloop (fb := [8, 13, 15]) T.ok (Nat.le_of_ble_eq_true rfl) [0, 9] (fun (k : Nat) => [(10, .c (.d (.sc (.int .i64 (k : Nat))))), (4, .c (.own 500004 38 ((pairL b f k (countR b f 6 s).2).1.map pairD)))]) (fun k => hset (hOf [(t, rdS b f s)]) t (rdS b f (pairL b f k (countR b f 6 s).2).2)) (fun k => k ≤ (countR b f 6 s).1.toNat) (fun k => (countR b f 6 s).1.toNat - k) 0 (Nat.zero_le _) (x_ent (by first | rfl | (simp only [Tr.get]; simp; done)) (x_ent (by first | rfl | (simp only [Tr.get]; simp; done)) trivial)) (by simp only [hpost, hset_hset]; first | done | rfl) ?_
 rintro k hk
 have hk5 := pairL_inv (f := f) hc k
 have hk6 := textR_inv (f := f) (most := 12) hk5
 refine br (fun hc1 => ?y1) (fun hc1 => ?n1)
 case' y1 =>
  refine x_callH T.en_72 (text8_any t ht b f 12 (pairL b f k (countR b f 6 s).2).2 hb hk5) ?_ ⟨⟨ht, (by first | rfl | (simp only [hOf, hset, hpost, if_true, if_false, not_false_eq_true]; first | done | rfl))⟩, trivial⟩
  refine x_callH T.en_72 (text8_any t ht b f 12 (textR b f 12 (pairL b f k (countR b f 6 s).2).2).2 hb hk6) ?_ ⟨⟨ht, (by first | rfl | (simp only [hOf, hset, hpost, if_true, if_false, not_false_eq_true]; first | done | rfl))⟩, trivial⟩
  first | refine x_app ?_ (by first | exact pairs_wide | (simp [D.cells, pairD])) (hz := by first | exact pairL_snoc | exact rfl | rfl) (h1 := by unfold maxLen; ((try simp only [List.length_map, pairL_len, List.length_cons, List.length_nil]); omega)) (h2 := by ((try simp only [List.length_map, pairL_len, List.length_cons, List.length_nil]); omega)) | refine x_appN ?_ (by first | exact pairs_wide | (simp [D.cells, pairD])) (h1 := by unfold maxLen; ((try simp only [List.length_map, pairL_len, List.length_cons, List.length_nil]); omega)) (h2 := by ((try simp only [List.length_map, pairL_len, List.length_cons, List.length_nil]); omega))
  first | refine x_inc ?_ (h := by ((try simp only [List.length_map, pairL_len, List.length_cons, List.length_nil]); omega)) | refine x_add ?_ (h := by first | exact IntWalk.i64_in _ (by ((try simp only [List.length_map, pairL_len, List.length_cons, List.length_nil]); omega)) | rfl) | refine x_bin rfl rfl ?_
  refine x_rnd (k + 1) (by omega) (by (try dsimp only); omega) rfl (x_ent (by first | rfl | (simp only [Tr.get]; simp; done)) (x_ent (by first | rfl | (simp only [Tr.get]; simp; done)) trivial)) (by simp only [hpost, hset_hset]; first | done | rfl)
 case' n1 =>
  obtain rfl : k = (countR b f 6 s).1.toNat := by omega
 all_goals (refine ⟨?_, ⟨⟨ht, (by first | rfl | (simp only [hOf, hset, hpost, if_true, if_false, not_false_eq_true]; first | done | rfl))⟩, trivial⟩⟩; simp only [fitsL, fits, C.asD, and_true] <;> (rfl))

set_option maxHeartbeats 1000000 in
theorem lensGet_any (t : Nat) (ht : NAM ≤ t) (b : List UInt8) (f : Int) (s : Nat × Bool) (hb : b.length ≤ 16000000) (hs : s.1 ≤ b.length) : ContractH Try.prog 19 [.ptr t 0] [(t, rdS b f s)] [.d (lD (lensR b f s).1)] [(t, rdS b f (lensR b f s).2)] := by
 refine T.fnH [5, 8, 11, 14, 17, 20, 23, 34, 37, 43] Try.func19 ?_ (by simp only [List.forall_mem_cons, List.not_mem_nil, false_implies, implies_true, and_true]; exact ht) (by simp [thing]) (by simp [thing])
 have h1 := ls1_inv (f := f) hs
 have h2 := ls2_inv (f := f) hs
 have h3 := ls3_inv (f := f) hs
 have h4 := ls4_inv (f := f) hs
 have h5 := ls5_inv (f := f) hs
 have h6 := ls6_inv (f := f) hs
 have h7 := ls7_inv (f := f) hs
 have h8 := ls8_inv (f := f) hs
 have h9 := fieldR_inv (f := f) h7
 refine x_callH T.en_70 (num_any t ht b f s hb hs) ?_ ⟨⟨ht, (by first | rfl | (simp only [hOf, hset, hpost, if_true, if_false, not_false_eq_true]; first | done | rfl))⟩, trivial⟩
 refine x_callH T.en_71 (ref8_any t ht b f (ls1 b f s) hb h1) ?_ ⟨⟨ht, (by first | rfl | (simp only [hOf, hset, hpost, if_true, if_false, not_false_eq_true]; first | done | rfl))⟩, trivial⟩
 refine x_callH T.en_72 (text8_any t ht b f 12 (ls2 b f s) hb h2) ?_ ⟨⟨ht, (by first | rfl | (simp only [hOf, hset, hpost, if_true, if_false, not_false_eq_true]; first | done | rfl))⟩, trivial⟩
 refine x_callH T.en_72 (text8_any t ht b f 40 (ls3 b f s) hb h3) ?_ ⟨⟨ht, (by first | rfl | (simp only [hOf, hset, hpost, if_true, if_false, not_false_eq_true]; first | done | rfl))⟩, trivial⟩
 refine x_callH T.en_70 (num_any t ht b f (ls4 b f s) hb h4) ?_ ⟨⟨ht, (by first | rfl | (simp only [hOf, hset, hpost, if_true, if_false, not_false_eq_true]; first | done | rfl))⟩, trivial⟩
 refine x_callH T.en_73 (getPairs_any t ht b f (ls5 b f s) hb h5) ?_ ⟨⟨ht, (by first | rfl | (simp only [hOf, hset, hpost, if_true, if_false, not_false_eq_true]; first | done | rfl))⟩, trivial⟩
 refine x_callH T.en_73 (getPairs_any t ht b f (ls6 b f s) hb h6) ?_ ⟨⟨ht, (by first | rfl | (simp only [hOf, hset, hpost, if_true, if_false, not_false_eq_true]; first | done | rfl))⟩, trivial⟩
 refine br (fun hg1 => ?y1) (fun hg1 => ?n1)
 case' y1 =>
  refine brT ?_
  have hk : lsk b f s = 2 ∨ lsk b f s = 3 := by show (numR b f s).1 = 2 ∨ (numR b f s).1 = 3; omega
  have h8e : ls8 b f s = (fieldR b f (ls7 b f s)).2 := by unfold ls8; rw [if_pos hk]
  have hV : lensV b f s = ⟨lsk b f s, (refR b f (ls1 b f s)).1, strL (textR b f 12 (ls2 b f s)).1, strL (textR b f 40 (ls3 b f s)).1, (numR b f (ls4 b f s)).1, (fieldR b f (ls7 b f s)).1, (pairsR b f (ls5 b f s)).1, (pairsR b f (ls6 b f s)).1⟩ := by unfold lensV lsf; rw [if_pos hk]
  refine x_callH T.en_74 (fieldGet_any t ht b f (ls7 b f s) hb h7) ?_ ⟨⟨ht, (by first | rfl | (simp only [hOf, hset, hpost, if_true, if_false, not_false_eq_true]; first | done | rfl))⟩, trivial⟩
  first | refine x_callR T.en_24 (bad_any t ht b f (fieldR b f (ls7 b f s)).2 hb h9) ?_ ⟨⟨ht, (by first | rfl | (simp only [hOf, hset, hpost, if_true, if_false, not_false_eq_true]; first | done | rfl))⟩, trivial⟩ | refine x_callR T.en_24 (bad_any t ht b f (ls7 b f s) hb h7) ?_ ⟨⟨ht, (by first | rfl | (simp only [hOf, hset, hpost, if_true, if_false, not_false_eq_true]; first | done | rfl))⟩, trivial⟩
  refine br (fun hc3 => ?y3) (fun hc3 => ?n3)
  case' y3 =>
   have hR : lensR b f s = (noLens, ls8 b f s) := by unfold lensR; rw [if_pos (by rw [h8e]; assumption)]
   rw [h8e] at hR
  case' n3 =>
   refine x_call T.en_9 (by first | exact lensRight_any ⟨lsk b f s, (refR b f (ls1 b f s)).1, strL (textR b f 12 (ls2 b f s)).1, strL (textR b f 40 (ls3 b f s)).1, (numR b f (ls4 b f s)).1, (fieldR b f (ls7 b f s)).1, (pairsR b f (ls5 b f s)).1, (pairsR b f (ls6 b f s)).1⟩ (by rw [← hV]; exact lensV_ok) | exact lensRight_any ⟨lsk b f s, (refR b f (ls1 b f s)).1, strL (textR b f 12 (ls2 b f s)).1, strL (textR b f 40 (ls3 b f s)).1, (numR b f (ls4 b f s)).1, noField, (pairsR b f (ls5 b f s)).1, (pairsR b f (ls6 b f s)).1⟩ (by rw [← hV]; exact lensV_ok)) ?_
   refine br (fun hc4 => ?y4) (fun hc4 => ?n4)
   case' y4 =>
    have hR : lensR b f s = (noLens, ((ls8 b f s).1, true)) := by unfold lensR; rw [if_neg (by rw [h8e]; simp_all), if_pos (by rw [hV]; assumption)]
    rw [h8e] at hR
    first | refine x_callH T.en_75 (spoil_any t ht b f (fieldR b f (ls7 b f s)).2 hb h9) ?_ ⟨⟨ht, (by first | rfl | (simp only [hOf, hset, hpost, if_true, if_false, not_false_eq_true]; first | done | rfl))⟩, trivial⟩ | refine x_callH T.en_75 (spoil_any t ht b f (ls7 b f s) hb h7) ?_ ⟨⟨ht, (by first | rfl | (simp only [hOf, hset, hpost, if_true, if_false, not_false_eq_true]; first | done | rfl))⟩, trivial⟩
   case' n4 =>
    have hR : lensR b f s = (lensV b f s, ls8 b f s) := by unfold lensR; rw [if_neg (by rw [h8e]; simp_all), if_neg (by rw [hV]; simp_all)]
    rw [h8e, hV] at hR
 case' n1 =>
  refine br (fun hc5 => ?y5) (fun hc5 => ?n5)
  case' y5 =>
   have hk : lsk b f s = 2 ∨ lsk b f s = 3 := by show (numR b f s).1 = 2 ∨ (numR b f s).1 = 3; omega
   have h8e : ls8 b f s = (fieldR b f (ls7 b f s)).2 := by unfold ls8; rw [if_pos hk]
   have hV : lensV b f s = ⟨lsk b f s, (refR b f (ls1 b f s)).1, strL (textR b f 12 (ls2 b f s)).1, strL (textR b f 40 (ls3 b f s)).1, (numR b f (ls4 b f s)).1, (fieldR b f (ls7 b f s)).1, (pairsR b f (ls5 b f s)).1, (pairsR b f (ls6 b f s)).1⟩ := by unfold lensV lsf; rw [if_pos hk]
   refine x_callH T.en_74 (fieldGet_any t ht b f (ls7 b f s) hb h7) ?_ ⟨⟨ht, (by first | rfl | (simp only [hOf, hset, hpost, if_true, if_false, not_false_eq_true]; first | done | rfl))⟩, trivial⟩
   first | refine x_callR T.en_24 (bad_any t ht b f (fieldR b f (ls7 b f s)).2 hb h9) ?_ ⟨⟨ht, (by first | rfl | (simp only [hOf, hset, hpost, if_true, if_false, not_false_eq_true]; first | done | rfl))⟩, trivial⟩ | refine x_callR T.en_24 (bad_any t ht b f (ls7 b f s) hb h7) ?_ ⟨⟨ht, (by first | rfl | (simp only [hOf, hset, hpost, if_true, if_false, not_false_eq_true]; first | done | rfl))⟩, trivial⟩
   refine br (fun hc6 => ?y6) (fun hc6 => ?n6)
   case' y6 =>
    have hR : lensR b f s = (noLens, ls8 b f s) := by unfold lensR; rw [if_pos (by rw [h8e]; assumption)]
    rw [h8e] at hR
   case' n6 =>
    refine x_call T.en_9 (by first | exact lensRight_any ⟨lsk b f s, (refR b f (ls1 b f s)).1, strL (textR b f 12 (ls2 b f s)).1, strL (textR b f 40 (ls3 b f s)).1, (numR b f (ls4 b f s)).1, (fieldR b f (ls7 b f s)).1, (pairsR b f (ls5 b f s)).1, (pairsR b f (ls6 b f s)).1⟩ (by rw [← hV]; exact lensV_ok) | exact lensRight_any ⟨lsk b f s, (refR b f (ls1 b f s)).1, strL (textR b f 12 (ls2 b f s)).1, strL (textR b f 40 (ls3 b f s)).1, (numR b f (ls4 b f s)).1, noField, (pairsR b f (ls5 b f s)).1, (pairsR b f (ls6 b f s)).1⟩ (by rw [← hV]; exact lensV_ok)) ?_
    refine br (fun hc7 => ?y7) (fun hc7 => ?n7)
    case' y7 =>
     have hR : lensR b f s = (noLens, ((ls8 b f s).1, true)) := by unfold lensR; rw [if_neg (by rw [h8e]; simp_all), if_pos (by rw [hV]; assumption)]
     rw [h8e] at hR
     first | refine x_callH T.en_75 (spoil_any t ht b f (fieldR b f (ls7 b f s)).2 hb h9) ?_ ⟨⟨ht, (by first | rfl | (simp only [hOf, hset, hpost, if_true, if_false, not_false_eq_true]; first | done | rfl))⟩, trivial⟩ | refine x_callH T.en_75 (spoil_any t ht b f (ls7 b f s) hb h7) ?_ ⟨⟨ht, (by first | rfl | (simp only [hOf, hset, hpost, if_true, if_false, not_false_eq_true]; first | done | rfl))⟩, trivial⟩
    case' n7 =>
     have hR : lensR b f s = (lensV b f s, ls8 b f s) := by unfold lensR; rw [if_neg (by rw [h8e]; simp_all), if_neg (by rw [hV]; simp_all)]
     rw [h8e, hV] at hR
  case' n5 =>
   have hk : ¬ (lsk b f s = 2 ∨ lsk b f s = 3) := by show ¬ ((numR b f s).1 = 2 ∨ (numR b f s).1 = 3); omega
   have h8e : ls8 b f s = ls7 b f s := by unfold ls8; rw [if_neg hk]
   have hV : lensV b f s = ⟨lsk b f s, (refR b f (ls1 b f s)).1, strL (textR b f 12 (ls2 b f s)).1, strL (textR b f 40 (ls3 b f s)).1, (numR b f (ls4 b f s)).1, noField, (pairsR b f (ls5 b f s)).1, (pairsR b f (ls6 b f s)).1⟩ := by unfold lensV lsf; rw [if_neg hk]
   first | refine x_callR T.en_24 (bad_any t ht b f (fieldR b f (ls7 b f s)).2 hb h9) ?_ ⟨⟨ht, (by first | rfl | (simp only [hOf, hset, hpost, if_true, if_false, not_false_eq_true]; first | done | rfl))⟩, trivial⟩ | refine x_callR T.en_24 (bad_any t ht b f (ls7 b f s) hb h7) ?_ ⟨⟨ht, (by first | rfl | (simp only [hOf, hset, hpost, if_true, if_false, not_false_eq_true]; first | done | rfl))⟩, trivial⟩
   refine br (fun hc8 => ?y8) (fun hc8 => ?n8)
   case' y8 =>
    have hR : lensR b f s = (noLens, ls8 b f s) := by unfold lensR; rw [if_pos (by rw [h8e]; assumption)]
    rw [h8e] at hR
   case' n8 =>
    refine x_call T.en_9 (by first | exact lensRight_any ⟨lsk b f s, (refR b f (ls1 b f s)).1, strL (textR b f 12 (ls2 b f s)).1, strL (textR b f 40 (ls3 b f s)).1, (numR b f (ls4 b f s)).1, (fieldR b f (ls7 b f s)).1, (pairsR b f (ls5 b f s)).1, (pairsR b f (ls6 b f s)).1⟩ (by rw [← hV]; exact lensV_ok) | exact lensRight_any ⟨lsk b f s, (refR b f (ls1 b f s)).1, strL (textR b f 12 (ls2 b f s)).1, strL (textR b f 40 (ls3 b f s)).1, (numR b f (ls4 b f s)).1, noField, (pairsR b f (ls5 b f s)).1, (pairsR b f (ls6 b f s)).1⟩ (by rw [← hV]; exact lensV_ok)) ?_
    refine br (fun hc9 => ?y9) (fun hc9 => ?n9)
    case' y9 =>
     have hR : lensR b f s = (noLens, ((ls8 b f s).1, true)) := by unfold lensR; rw [if_neg (by rw [h8e]; simp_all), if_pos (by rw [hV]; assumption)]
     rw [h8e] at hR
     first | refine x_callH T.en_75 (spoil_any t ht b f (fieldR b f (ls7 b f s)).2 hb h9) ?_ ⟨⟨ht, (by first | rfl | (simp only [hOf, hset, hpost, if_true, if_false, not_false_eq_true]; first | done | rfl))⟩, trivial⟩ | refine x_callH T.en_75 (spoil_any t ht b f (ls7 b f s) hb h7) ?_ ⟨⟨ht, (by first | rfl | (simp only [hOf, hset, hpost, if_true, if_false, not_false_eq_true]; first | done | rfl))⟩, trivial⟩
    case' n9 =>
     have hR : lensR b f s = (lensV b f s, ls8 b f s) := by unfold lensR; rw [if_neg (by rw [h8e]; simp_all), if_neg (by rw [hV]; simp_all)]
     rw [h8e, hV] at hR
 all_goals (refine ⟨?_, ⟨⟨ht, (by rw [hR]; first | rfl | (rw [hg]; done) | (rw [hg]; simp only [hOf, hset, hpost, if_true, if_false, not_false_eq_true]; first | done | rfl) | (simp only [hOf, hset, hpost, if_true, if_false, not_false_eq_true]; first | done | rfl))⟩, trivial⟩⟩; simp only [fitsL, fits, C.asD, and_true] <;> (rw [hR]; rfl))
end Go.Vm
end
