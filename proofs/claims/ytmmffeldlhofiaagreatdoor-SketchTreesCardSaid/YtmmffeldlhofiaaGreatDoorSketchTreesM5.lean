/- Part 5 of what the proof of SketchTrees stands on: LnMerged, LnArr, LnApply, LnApplyR, TrPlain, TrSettleP, SkB, SkC, SkLay, Bridge, OldC, SkStr, SkW1, NumPiece, NumValue, NumRd, NumPrint, NumRefA, NumRefRd, SkOld, SkW4, SkW5. -/
import Derived.Shelf.Strings.OnBuilder
import Derived.Room.Shelf.Join48
import Derived.Shelf.Strings.Split
import Derived.Shelf.Strings.Search2
import Derived.Ground.NamesProg
import Derived.Test.YtmmffeldlhofiaaGreatDoorProg
import Derived.Lib.IndexBytes
import Derived.Test.YtmmffeldlhofiaaGreatDoorSketchTreesM4
set_option linter.unusedVariables false
set_option linter.unusedSimpArgs false
set_option maxHeartbeats 1000000
section
namespace Go.Vm
open Go.RowKit Go.Proofs
set_option maxRecDepth 10000
theorem lensGoes_at (x : LensD) (hx0 : okX x) (hx : rightL x = true) : Contract Tryz.prog 168 [lD x] [.d (.row ((goesL x).map rD))] := by have h := lensGoes_any x hx0; rwa [if_pos hx] at h
theorem lensComes_at (x : LensD) (hx0 : okX x) (hx : rightL x = true) : Contract Tryz.prog 188 [lD x] [.d (.row ((comesL x).map rD))] := by have h := lensComes_any x hx0; rwa [if_pos hx] at h
theorem go9_0 {x : LensD} (h : x.kind = 9) : ((goesL x).map rD)[(0 : Int).toNat]? = some (rD (named x.at_ x.name)) := by rw [goes_9 h]; rfl
theorem go9_1 {x : LensD} (h : x.kind = 9) : ((goesL x).map rD)[(1 : Int).toNat]? = some (rD (named x.at_ x.other)) := by rw [goes_9 h]; rfl
theorem co6_0 {x : LensD} (h : x.kind = 6) : ((comesL x).map rD)[(0 : Int).toNat]? = some (rD (named x.at_ x.name)) := by rw [comes_6 h]; rfl
theorem co6_1 {x : LensD} (h : x.kind = 6) : ((comesL x).map rD)[(1 : Int).toNat]? = some (rD (named x.at_ x.other)) := by rw [comes_6 h]; rfl
theorem comes_ne {x : LensD} (h : ¬ x.kind = 3) : comesL x ≠ [] := by
  unfold comesL; simp only [h, if_false]; (repeat' split) <;> simp
theorem co_0 {x : LensD} (h : ¬ x.kind = 3) : ((comesL x).map rD)[(0 : Int).toNat]? = some (rD (comeL x)) := by
  have := comes_ne h
  unfold comeL
  cases hc : comesL x with
  | nil => exact absurd hc this
  | cons c cs => rfl
theorem mul_bound {a b : Int} (h : 0 ≤ a ∧ a ≤ 1048576) (h2 : 0 ≤ b ∧ b ≤ 1000) : -9223372036854775808 ≤ a * b ∧ a * b ≤ 9223372036854775807 := by
  have h3 := Int.mul_nonneg h.1 h2.1
  have h4 : a * b ≤ 1048576 * 1000 := Int.mul_le_mul h.2 h2.2 h2.1 (by omega)
  omega
theorem factor_ok {x : LensD} (hx : rightL x = true) (h : x.kind = 6 ∨ x.kind = 9) : 0 ≤ x.factor ∧ x.factor ≤ 1000 := by
  unfold rightL at hx
  rw [if_neg (by omega), if_neg (show ¬ x.kind = 8 by omega), if_pos h] at hx
  simp only [Bool.and_eq_true, decide_eq_true_eq] at hx
  omega
theorem find_in {l : List FieldD} {r : RefD} (h : (findS l r).2 = 0) : ¬ indexS l r < 0 := by
  intro h'; rw [find_neg h'] at h; simp at h
theorem find_worth {l : List FieldD} {r : RefD} (hl : rightS l = true) (h : (findS l r).2 = 0) : 0 ≤ (findS l r).1.worth ∧ (findS l r).1.worth ≤ 1048576 := by
  have h' := find_in h
  rw [find_pos h']
  exact rightF_worth (rightS_mem hl (fieldAt_spec h').1)
theorem find_ok {l : List FieldD} {r : RefD} (ho : okL l) : (findS l r).1.cases.length ≤ 1000000 := by
  by_cases h : indexS l r < 0
  · rw [find_neg h]; simp [noField]
  · rw [find_pos h]; exact ho.2 _ (fieldAt_spec h).1
theorem arr_2 {l : List FieldD} {x : LensD} (h : x.kind = 2) : arrS l x = ([x.field], true) := by unfold arrS; rw [if_pos h]
theorem arr_3 {l : List FieldD} {x : LensD} (h : x.kind = 3) : arrS l x = ([], decide ((findS l x.field.at_).2 = 0) && decide ((findS l x.field.at_).1 = x.field)) := by unfold arrS; rw [if_neg (by omega), if_pos h]
theorem arr_9 {l : List FieldD} {x : LensD} (h : x.kind = 9) : arrS l x = mergedS l x := by unfold arrS; rw [if_neg (by omega), if_neg (by omega), if_pos h]
theorem arr_no {l : List FieldD} {x : LensD} (h2 : ¬ x.kind = 2) (h3 : ¬ x.kind = 3) (h9 : ¬ x.kind = 9) (hf : ¬ (findS l x.at_).2 = 0) : arrS l x = ([], false) := by unfold arrS; rw [if_neg h2, if_neg h3, if_neg h9, if_pos hf]
theorem arr_6 {l : List FieldD} {x : LensD} (h : x.kind = 6) (hf : (findS l x.at_).2 = 0) : arrS l x = ([⟨named x.at_ x.name, 1, noB, [], (findS l x.at_).1.worth⟩, ⟨named x.at_ x.other, 1, noB, [], (findS l x.at_).1.worth * x.factor⟩], decide ((findS l x.at_).1.kind = 1)) := by
  unfold arrS; rw [if_neg (by omega), if_neg (by omega), if_neg (by omega), if_neg (by omega), if_pos h]
theorem arr_7 {l : List FieldD} {x : LensD} (h : x.kind = 7) (hf : (findS l x.at_).2 = 0) : arrS l x = ([⟨x.at_, 4, noB, [], 0⟩], decide ((findS l x.at_).1.kind = 2) && decide ((findS l x.at_).1.deft = x.other)) := by
  unfold arrS; rw [if_neg (by omega), if_neg (by omega), if_neg (by omega), if_neg (by omega), if_neg (by omega), if_pos h]
theorem arr_10 {l : List FieldD} {x : LensD} (h : x.kind = 10) (hf : (findS l x.at_).2 = 0) : arrS l x = ([⟨x.at_, 2, x.other, [], 0⟩], decide ((findS l x.at_).1.kind = 4)) := by
  unfold arrS; rw [if_neg (by omega), if_neg (by omega), if_neg (by omega), if_neg (by omega), if_neg (by omega), if_neg (by omega), if_pos h]
theorem arr_8 {l : List FieldD} {x : LensD} (h : x.kind = 8) (hf : (findS l x.at_).2 = 0) : arrS l x = ([⟨x.at_, 3, x.other, froms x.back, 0⟩], decide ((findS l x.at_).1 = ⟨x.at_, 3, x.name, froms x.forth, 0⟩)) := by
  unfold arrS; rw [if_neg (by omega), if_neg (by omega), if_neg (by omega), if_neg (by omega), if_neg (by omega), if_neg (by omega), if_neg (by omega), if_pos h]
theorem arr_o {l : List FieldD} {x : LensD} (h : ¬ x.kind = 2 ∧ ¬ x.kind = 3 ∧ ¬ x.kind = 9 ∧ ¬ x.kind = 6 ∧ ¬ x.kind = 7 ∧ ¬ x.kind = 10 ∧ ¬ x.kind = 8) (hf : (findS l x.at_).2 = 0) : arrS l x = ([⟨comeL x, (findS l x.at_).1.kind, (findS l x.at_).1.deft, (findS l x.at_).1.cases, (findS l x.at_).1.worth⟩], true) := by
  unfold arrS; rw [if_neg (by omega), if_neg (by omega), if_neg (by omega), if_neg (by omega), if_neg (by omega), if_neg (by omega), if_neg (by omega), if_neg (by omega)]
theorem pair_and {A : Prop} {a b : Bool} (h1 : A) (h : a = b) : A ∧ D.sc (.bool a) = D.sc (.bool b) := ⟨h1, scb h⟩
theorem merged_any (l : List FieldD) (x : LensD) (ho : okL l) (hx0 : okX x) (hl : rightS l = true) (hx : rightL x = true) (hk : x.kind = 9) : Contract Tryz.prog 187 [.row (l.map fD), lD x] [.d (.row ((mergedS l x).1.map fD)), .d (.sc (.bool ((mergedS l x).2)))] := by
 refine T.fn [] Tryz.func187 ?_
 refine x_call T.en_168 (lensGoes_at _ hx0 hx) ?_
 first | refine x_ix (by first | exact go9_0 (by omega) | exact go9_1 (by omega) | exact co6_0 (by omega) | exact co6_1 (by omega) | exact co_0 (by omega)) ?_ | refine x_ixI (by first | exact go9_0 (by omega) | exact go9_1 (by omega) | exact co6_0 (by omega) | exact co6_1 (by omega) | exact co_0 (by omega)) ?_
 refine x_call T.en_186 (schemaFind_any _ _ ho) ?_
 refine br (fun hg1 => ?y1) (fun hg1 => ?n1)
 case' y1 =>
  refine brT ?_
 case' n1 =>
  have hu0 : (findS l (named x.at_ x.name)).2 = 0 := by simpa using hg1
  refine br (fun hc3 => ?y3) (fun hc3 => ?n3)
  case' n3 =>
   first | refine x_ix (by first | exact go9_0 (by omega) | exact go9_1 (by omega) | exact co6_0 (by omega) | exact co6_1 (by omega) | exact co_0 (by omega)) ?_ | refine x_ixI (by first | exact go9_0 (by omega) | exact go9_1 (by omega) | exact co6_0 (by omega) | exact co6_1 (by omega) | exact co_0 (by omega)) ?_
   refine x_call T.en_186 (schemaFind_any _ _ ho) ?_
   refine br (fun hg4 => ?y4) (fun hg4 => ?n4)
   case' y4 =>
    refine brT ?_
    refine brT ?_
   case' n4 =>
    refine br (fun hg7 => ?y7) (fun hg7 => ?n7)
    case' y7 =>
     refine brT ?_
    case' n7 =>
     first | refine x_bin (pr_mul (wrap64 _ (mul_bound (find_worth hl hu0) (factor_ok hx (.inr hk))))) rfl ?_ | refine x_mul ?_ | refine x_bin rfl rfl ?_
     refine br (fun hc9 => ?y9) (fun hc9 => ?n9)
 all_goals (refine x_ret ?_; simp only [fitsL, fits, C.asD, and_true] <;> (first | (unfold mergedS; simp_all; done) | (have hm : mergedS l x = ([⟨x.at_, 1, noB, [], (findS l (named x.at_ x.name)).1.worth⟩], true) := (by unfold mergedS; simp_all; done); rw [hm]; exact ⟨rfl, rfl⟩)))
end Go.Vm
end
section
namespace Go.Vm
open Go.RowKit Go.Proofs
set_option maxRecDepth 10000
theorem arrivals_any (l : List FieldD) (x : LensD) (ho : okL l) (hx0 : okX x) (hl : rightS l = true) (hx : rightL x = true) : Contract Tryz.prog 166 [.row (l.map fD), lD x] [.d (.row ((arrS l x).1.map fD)), .d (.sc (.bool ((arrS l x).2)))] := by
 refine T.fn [] Tryz.func166 ?_
 refine br (fun hc1 => ?y1) (fun hc1 => ?n1)
 case' y1 =>
  have hkkind_2 := hc1
  refine x_call T.en_153 (fieldOwn_any _ hx0.1) ?_
 case' n1 =>
  have hnkind_2 := hc1
  refine br (fun hc2 => ?y2) (fun hc2 => ?n2)
  case' y2 =>
   have hkkind_3 := hc2
   refine x_call T.en_186 (schemaFind_any _ _ ho) ?_
   refine br (fun hg3 => ?y3) (fun hg3 => ?n3)
   case' y3 =>
    refine x_call T.en_139 (by first | exact fieldSame_any _ x.field (find_ok ho) | exact fieldSame_any _ ⟨x.at_, 3, x.name, froms x.forth, 0⟩ (find_ok ho)) ?_
  case' n2 =>
   have hnkind_3 := hc2
   refine br (fun hc4 => ?y4) (fun hc4 => ?n4)
   case' y4 =>
    have hkkind_9 := hc4
    refine x_call T.en_187 (merged_any _ _ ho hx0 hl hx (by omega)) ?_
   case' n4 =>
    have hnkind_9 := hc4
    refine x_call T.en_186 (schemaFind_any _ _ ho) ?_
    refine br (fun hc5 => ?y5) (fun hc5 => ?n5)
    case' y5 =>
     have hf1 : ¬ (findS l x.at_).2 = 0 := by simpa using hc5
    case' n5 =>
     have hf0 : (findS l x.at_).2 = 0 := by simpa using hc5
     refine x_call T.en_188 (lensComes_at _ hx0 hx) ?_
     refine br (fun hc6 => ?y6) (fun hc6 => ?n6)
     case' y6 =>
      have hkkind_6 := hc6
      refine And.intro ⟨T.mixed, by decide +kernel⟩ ?_
      first | refine x_ix (by first | exact go9_0 (by omega) | exact go9_1 (by omega) | exact co6_0 (by omega) | exact co6_1 (by omega) | exact co_0 (by omega)) ?_ | refine x_ixI (by first | exact go9_0 (by omega) | exact go9_1 (by omega) | exact co6_0 (by omega) | exact co6_1 (by omega) | exact co_0 (by omega)) ?_
      refine And.intro ⟨T.mixed, by decide +kernel⟩ ?_
      first | refine x_ix (by first | exact go9_0 (by omega) | exact go9_1 (by omega) | exact co6_0 (by omega) | exact co6_1 (by omega) | exact co_0 (by omega)) ?_ | refine x_ixI (by first | exact go9_0 (by omega) | exact go9_1 (by omega) | exact co6_0 (by omega) | exact co6_1 (by omega) | exact co_0 (by omega)) ?_
      first | refine x_bin (pr_mul (wrap64 _ (mul_bound (find_worth hl hf0) (factor_ok hx (by omega))))) rfl ?_ | refine x_mul ?_ | refine x_bin rfl rfl ?_
      refine And.intro ⟨T.mixed, by decide +kernel⟩ ?_
     case' n6 =>
      have hnkind_6 := hc6
      refine br (fun hc7 => ?y7) (fun hc7 => ?n7)
      case' y7 =>
       have hkkind_7 := hc7
       refine And.intro ⟨T.mixed, by decide +kernel⟩ ?_
       refine br (fun hg8 => ?y8) (fun hg8 => ?n8)
      case' n7 =>
       have hnkind_7 := hc7
       refine br (fun hc9 => ?y9) (fun hc9 => ?n9)
       case' y9 =>
        have hkkind_10 := hc9
        refine And.intro ⟨T.mixed, by decide +kernel⟩ ?_
       case' n9 =>
        have hnkind_10 := hc9
        refine br (fun hc10 => ?y10) (fun hc10 => ?n10)
        case' y10 =>
         have hkkind_8 := hc10
         refine And.intro ⟨T.mixed, by decide +kernel⟩ ?_
         refine x_call T.en_189 (froms_any _ (by first | exact hx0.2.1 | exact hx0.2.2)) ?_
         refine And.intro ⟨T.mixed, by decide +kernel⟩ ?_
         refine x_call T.en_189 (froms_any _ (by first | exact hx0.2.1 | exact hx0.2.2)) ?_
         refine And.intro ⟨T.mixed, by decide +kernel⟩ ?_
         refine x_call T.en_139 (by first | exact fieldSame_any _ x.field (find_ok ho) | exact fieldSame_any _ ⟨x.at_, 3, x.name, froms x.forth, 0⟩ (find_ok ho)) ?_
        case' n10 =>
         have hnkind_8 := hc10
         first | refine x_ix (by first | exact go9_0 (by omega) | exact go9_1 (by omega) | exact co6_0 (by omega) | exact co6_1 (by omega) | exact co_0 (by omega)) ?_ | refine x_ixI (by first | exact go9_0 (by omega) | exact go9_1 (by omega) | exact co6_0 (by omega) | exact co6_1 (by omega) | exact co_0 (by omega)) ?_
 all_goals (refine x_ret ?_; simp only [fitsL, fits, C.asD, and_true] <;> (first | (rw [arr_2 hkkind_2]; exact ⟨rfl, rfl⟩) | (rw [arr_3 hkkind_3]; refine pair_and rfl ?_; simp_all; done) | (rw [arr_9 hkkind_9]; exact ⟨rfl, rfl⟩) | (rw [arr_no hnkind_2 hnkind_3 hnkind_9 hf1]; exact ⟨rfl, rfl⟩) | (rw [arr_6 hkkind_6 hf0]; exact ⟨rfl, rfl⟩) | (rw [arr_7 hkkind_7 hf0]; refine pair_and rfl ?_; simp_all; done) | (rw [arr_10 hkkind_10 hf0]; exact ⟨rfl, rfl⟩) | (rw [arr_8 hkkind_8 hf0]; exact ⟨rfl, rfl⟩) | (rw [arr_o (by omega) hf0]; exact ⟨rfl, rfl⟩)))
end Go.Vm
end
section
namespace Go.Vm
open Go.RowKit Go.Proofs
set_option maxRecDepth 10000
theorem okL_sub {l m : List FieldD} (ho : okL l) (h : m.length ≤ 1000) (hs : ∀ f ∈ m, f ∈ l) : okL m := ⟨h, fun f hf => ho.2 f (hs f hf)⟩
theorem okL_del {l : List FieldD} {r : RefD} (ho : okL l) : okL (delF l r) := okL_sub ho (by have := ho.1; have h := List.length_filter_le (fun f => !decide (f.at_ = r)) l; unfold delF; omega) (fun f hf => (mem_delF.1 hf).1)
theorem okL_nil : okL [] := ⟨by simp, by simp⟩
theorem okL_without {l : List FieldD} {r : RefD} (ho : okL l) : okL (withoutS l r).1 := by
  unfold withoutS
  split
  · exact okL_nil
  split
  · exact okL_nil
  · exact okL_del ho
theorem okL_with {l : List FieldD} {f : FieldD} (ho : okL l) (hf : f.cases.length ≤ 1000000) : okL (withS l f).1 := by
  unfold withS
  split
  · exact okL_nil
  split
  · exact okL_nil
  split
  · exact okL_nil
  · refine ⟨by show (insF l f).length ≤ 1000; rw [length_insF]; omega, fun g hg => ?_⟩
    rcases mem_insF.1 hg with rfl | hg
    · exact hf
    · exact ho.2 g hg
theorem okL_withAll : ∀ {fs l : List FieldD}, okL l → (∀ f ∈ fs, f.cases.length ≤ 1000000) → okL (withAll l fs).1
  | [], l, h, _ => h
  | f :: fs, l, h, hf => by
    unfold withAll
    split
    · exact okL_withAll (okL_with h (hf f (List.mem_cons_self ..))) (fun g hg => hf g (List.mem_cons_of_mem _ hg))
    · exact okL_nil
theorem okL_delAll {rs : List RefD} : ∀ {l : List FieldD}, okL l → okL (delAll l rs) := by
  induction rs with
  | nil => intro l h; exact h
  | cons r rs ih => intro l h; exact ih (okL_del h)
theorem froms_ok {t : List (ByteArray × ByteArray)} (h : t.length ≤ 1000) : (froms t).length ≤ 1000000 := by unfold froms; rw [List.length_map]; omega
theorem news_ok {l : List FieldD} {x : LensD} {fs : List FieldD} (ho : okL l) (hx0 : okX x) (hat : ∀ g ∈ goesL x, ¬ indexS l g < 0) (h : newsL l x = some fs) : ∀ f ∈ fs, f.cases.length ≤ 1000000 := by
  have h1 := hx0.1
  have h2 := froms_ok hx0.2.2
  unfold newsL at h
  split at h
  · injection h with h; subst h; simpa using h1
  split at h
  · split at h
    · injection h with h; subst h; simp
    · cases h
  split at h
  · split at h
    · injection h with h; subst h; simp
    · cases h
  split at h
  · split at h
    · injection h with h; subst h; simp
    · cases h
  split at h
  · split at h
    · injection h with h; subst h; simp
    · cases h
  split at h
  · split at h
    · injection h with h; subst h; simp
    · cases h
  split at h
  · split at h
    · injection h with h; subst h; simpa using h2
    · cases h
  · rename_i q2 q3 q9 q6 q7 q10 q8
    injection h with h; subst h
    have hfa : (fieldAt l x.at_).cases.length ≤ 1000000 := ho.2 _ (fieldAt_spec (hat x.at_ (by rw [goes_o q2 q3 q9]; exact List.mem_singleton.2 rfl))).1
    cases comesL x with
    | nil => simp
    | cons c cs => simpa using hfa
theorem arr_ok {l : List FieldD} {x : LensD} (ho : okL l) (hx0 : okX x) (h : (arrS l x).2 = true) : ∀ f ∈ (arrS l x).1, f.cases.length ≤ 1000000 := by
  have hat : ∀ g ∈ goesL x, ¬ indexS l g < 0 := by
    intro g hg hn
    have := arr_missing (l := l) (x := x) (List.any_eq_true.2 ⟨g, hg, by simpa using hn⟩)
    rw [h] at this; cases this
  have h4 := arr_news hat
  cases hn : newsL l x with
  | none => rw [hn] at h4; simp only at h4; rw [h] at h4; cases h4
  | some fs => rw [hn] at h4; simp only at h4; rw [h4]; exact news_ok ho hx0 hat hn
theorem okL_apply {l : List FieldD} {x : LensD} (ho : okL l) (hx0 : okX x) : okL (applyS l x).1 := by
  unfold applyS
  split
  · exact okL_nil
  split
  · exact okL_nil
  rename_i hg
  have hat : ∀ g ∈ goesL x, ¬ indexS l g < 0 := by simpa using hg
  split
  · exact okL_nil
  · rename_i fs hfs
    exact okL_withAll (okL_delAll ho) (news_ok ho hx0 hat hfs)
theorem drop_at {α : Type} {l : List α} {k : Nat} {p : α} (hp : l[k]? = some p) : l.drop k = p :: l.drop (k + 1) := by
  obtain ⟨hlt, rfl⟩ := List.getElem?_eq_some_iff.1 hp
  exact List.drop_eq_getElem_cons hlt
theorem goes_len (x : LensD) : (goesL x).length ≤ 2 := by unfold goesL; (repeat' split) <;> simp
theorem app_5 {l : List FieldD} {x : LensD} (h : (rightS l && rightL x) = false) : applyS l x = ([], 5) := by unfold applyS; rw [if_pos h]
theorem app_arr {l : List FieldD} {x : LensD} (hl : rightS l = true) (hx : rightL x = true) (h : (arrS l x).2 = false) : applyS l x = ([], 16) := by rw [← applyP_eq]; unfold applyP; rw [hl, hx, if_neg (by simp), if_pos h]
theorem app_del {l : List FieldD} {x : LensD} (hl : rightS l = true) (hx : rightL x = true) (h : (arrS l x).2 = true) (hd : delLoop l (goesL x) = ([], 16)) : applyS l x = ([], 16) := by rw [← applyP_eq]; unfold applyP; rw [hl, hx, if_neg (by simp), h, if_neg (by simp), hd, if_pos (by simp)]
theorem app_with {l m : List FieldD} {x : LensD} (hl : rightS l = true) (hx : rightL x = true) (h : (arrS l x).2 = true) (hd : delLoop l (goesL x) = (m, 0)) : applyS l x = withAll m (arrS l x).1 := by rw [← applyP_eq]; unfold applyP; rw [hl, hx, if_neg (by simp), h, if_neg (by simp), hd, if_neg (by simp)]
theorem delLoop_hit {l : List FieldD} {r : RefD} {rs : List RefD} (h : ¬ (withoutS l r).2 = 0) : delLoop l (r :: rs) = ([], 16) := by unfold delLoop; rw [if_neg h]
theorem delLoop_next {l : List FieldD} {r : RefD} {rs : List RefD} (h : (withoutS l r).2 = 0) : delLoop l (r :: rs) = delLoop (withoutS l r).1 rs := by rw [delLoop, if_pos h]
theorem withAll_hit {l : List FieldD} {f : FieldD} {fs : List FieldD} (h : ¬ (withS l f).2 = 0) : withAll l (f :: fs) = ([], 16) := by rw [withAll, if_neg h]
theorem withAll_next {l : List FieldD} {f : FieldD} {fs : List FieldD} (h : (withS l f).2 = 0) : withAll l (f :: fs) = withAll (withS l f).1 fs := by rw [withAll, if_pos h]
theorem del_end {l m : List FieldD} {rs : List RefD} {k : Nat} (hk : rs.length ≤ k) (h : delLoop l rs = delLoop m (rs.drop k)) : delLoop l rs = (m, 0) := by rw [h, List.drop_eq_nil_of_le hk]; rfl
theorem with_end {l m fs : List FieldD} {k : Nat} (hk : fs.length ≤ k) (h : withAll l fs = withAll m (fs.drop k)) : withAll l fs = (m, 0) := by rw [h, List.drop_eq_nil_of_le hk]; rfl
theorem arr_len (l : List FieldD) (x : LensD) : (arrS l x).1.length ≤ 2 := by unfold arrS mergedS; (repeat' split) <;> simp
theorem apply_any (l : List FieldD) (x : LensD) (ho : okL l) (hx0 : okX x) : Contract Tryz.prog 150 [.row (l.map fD), lD x] [.d (.row ((applyS l x).1.map fD)), .d (.sc (.int .i64 (applyS l x).2))] := by
 refine T.fn [] Tryz.func150 ?_
 have hl0 := ho.1
 refine x_call T.en_79 (schemaRight_any _ ho) ?_
 refine br (fun hg1 => ?y1) (fun hg1 => ?n1)
 case' y1 =>
  refine brT ?_
  have h5 : (rightS l && rightL x) = false := by simp_all
 case' n1 =>
  refine x_call T.en_58 (lensRight_any _ hx0) ?_
  refine br (fun hc3 => ?y3) (fun hc3 => ?n3)
  case' y3 =>
   have h5 : (rightS l && rightL x) = false := by simp_all
  case' n3 =>
   have hg1 : rightS l = true ∧ rightL x = true := by simp_all
   have hl := hg1.1
   have hx := hg1.2
   refine x_call T.en_166 (arrivals_any _ _ ho hx0 hl hx) ?_
   refine br (fun hc4 => ?y4) (fun hc4 => ?n4)
   case' y4 =>
    have har : (arrS l x).2 = false := by simpa using hc4
   case' n4 =>
    have har : (arrS l x).2 = true := by simpa using hc4
    have haok := arr_ok ho hx0 har
    have hgl := goes_len x
    have hal := arr_len l x
    refine x_call T.en_167 (schemaOwn_any _ ho) ?_
    refine x_call T.en_168 (lensGoes_at _ hx0 hx) ?_
    refine x_len ?_
    refine xloopR (fb := []) T.ok (Nat.le_of_ble_eq_true rfl) [6, 33, 34] (fun (s : Nat × List FieldD) => [(35, .c (.d (.sc (.int .i64 ((s.1 : Nat) : Int))))), (8, .c (.d (.row (s.2.map fD))))]) (fun s => s.1 ≤ (goesL x).length ∧ okL s.2 ∧ delLoop l (goesL x) = delLoop s.2 ((goesL x).drop s.1)) (fun s => (goesL x).length - s.1) (0, l) ⟨Nat.zero_le _, ho, rfl⟩ (x_ent (by first | rfl | (simp only [Tr.get]; simp; done)) (x_ent (by first | rfl | (simp only [Tr.get]; simp; done)) trivial)) ?_
    rintro s ⟨hk, hok, hi⟩
    refine br (fun hc5 => ?y5) (fun hc5 => ?n5)
    case' y5 =>
     obtain ⟨p, hp⟩ := elem_at hc5
     have hkl := lt_len hp
     first | refine x_ix (by first | exact mapAt hp | exact mapAt hq) ?_ | refine x_ixI (by first | exact mapAt hp | exact mapAt hq) ?_
     refine x_call T.en_169 (schemaWithout_any _ _ hok) ?_
     refine br (fun hc6 => ?y6) (fun hc6 => ?n6)
     case' y6 =>
      have hc0 : ¬ (withoutS s.2 p).2 = 0 := by simpa using hc6
      have hD : delLoop l (goesL x) = ([], 16) := by rw [hi, drop_at hp]; exact delLoop_hit hc0
     case' n6 =>
      have hc0 : (withoutS s.2 p).2 = 0 := by simpa using hc6
      first | refine x_bin (pr_add1 (by omega)) rfl ?_ | refine x_inc ?_ | refine x_add ?_ | refine x_bin rfl rfl ?_
      refine x_rnd (s.1 + 1, (withoutS s.2 p).1) ⟨lt_len hp, okL_without hok, by rw [hi, drop_at hp]; exact delLoop_next hc0⟩ (by (try dsimp only); have := lt_len hp; (try dsimp only); omega) rfl (x_ent (by first | rfl | (simp only [Tr.get]; simp; done)) (x_ent (by first | rfl | (simp only [Tr.get]; simp; done)) trivial)) rfl
    case' n5 =>
     have hD : delLoop l (goesL x) = (s.2, 0) := del_end (past_end hc5) hi
     refine x_len ?_
     refine xloopR (fb := []) T.ok (Nat.le_of_ble_eq_true rfl) [48, 49] (fun (u : Nat × List FieldD) => [(50, .c (.d (.sc (.int .i64 ((u.1 : Nat) : Int))))), (8, .c (.d (.row (u.2.map fD))))]) (fun u => u.1 ≤ (arrS l x).1.length ∧ okL u.2 ∧ withAll s.2 (arrS l x).1 = withAll u.2 ((arrS l x).1.drop u.1)) (fun u => (arrS l x).1.length - u.1) (0, s.2) ⟨Nat.zero_le _, hok, rfl⟩ (x_ent (by first | rfl | (simp only [Tr.get]; simp; done)) (x_ent (by first | rfl | (simp only [Tr.get]; simp; done)) trivial)) ?_
     rintro u ⟨hk2, hok, hv⟩
     refine br (fun hc7 => ?y7) (fun hc7 => ?n7)
     case' y7 =>
      obtain ⟨q, hq⟩ := elem_at hc7
      have hkl2 := lt_len hq
      first | refine x_ix (by first | exact mapAt hp | exact mapAt hq) ?_ | refine x_ixI (by first | exact mapAt hp | exact mapAt hq) ?_
      refine x_call T.en_170 (schemaWith_any _ _ hok (haok _ (List.mem_of_getElem? hq))) ?_
      refine br (fun hc8 => ?y8) (fun hc8 => ?n8)
      case' y8 =>
       have hw0 : ¬ (withS u.2 q).2 = 0 := by simpa using hc8
       have hW : withAll s.2 (arrS l x).1 = ([], 16) := by rw [hv, drop_at hq]; exact withAll_hit hw0
      case' n8 =>
       have hw0 : (withS u.2 q).2 = 0 := by simpa using hc8
       first | refine x_bin (pr_add1 (by omega)) rfl ?_ | refine x_inc ?_ | refine x_add ?_ | refine x_bin rfl rfl ?_
       refine x_rnd (u.1 + 1, (withS u.2 q).1) ⟨lt_len hq, okL_with hok (haok _ (List.mem_of_getElem? hq)), by rw [hv, drop_at hq]; exact withAll_next hw0⟩ (by (try dsimp only); have := lt_len hq; (try dsimp only); omega) rfl (x_ent (by first | rfl | (simp only [Tr.get]; simp; done)) (x_ent (by first | rfl | (simp only [Tr.get]; simp; done)) trivial)) rfl
     case' n7 =>
      have hW : withAll s.2 (arrS l x).1 = (u.2, 0) := with_end (past_end hc7) hv
 all_goals (refine x_ret ?_; simp only [fitsL, fits, C.asD, and_true] <;> (first | (rw [app_5 h5]; exact ⟨rfl, rfl⟩) | (rw [app_arr hl hx har]; exact ⟨rfl, rfl⟩) | (rw [app_with hl hx har hD, hW]; exact ⟨rfl, rfl⟩) | (rw [app_del hl hx har hD]; exact ⟨rfl, rfl⟩)))
end Go.Vm
end
section
namespace Go.Vm
open Go.RowKit Go.Proofs
set_option maxRecDepth 10000
end Go.Vm
end
section
namespace Go.Vm
open Go.RowKit
structure TagD where
  r : Int
  n : Int
  deriving DecidableEq
def noTag : TagD := ⟨0, 0⟩
structure EdgeD where
  id : TagD
  parent : TagD
  lens : LensD
  deriving DecidableEq
structure NodeD where
  edge : EdgeD
  state : Int
  schema : List FieldD
  depth : Int
  deriving DecidableEq
def tD (t : TagD) : D := .agg [.sc (.int .i64 t.r), .sc (.int .i64 t.n)]
def lensC (x : LensD) : List D := [.sc (.int .i64 x.kind), .sc (.int .i64 x.at_.scope), .sc (.string x.at_.group), .sc (.string x.at_.name), .sc (.string x.name), .sc (.string x.other), .sc (.int .i64 x.factor),
  .sc (.int .i64 x.field.at_.scope), .sc (.string x.field.at_.group), .sc (.string x.field.at_.name), .sc (.int .i64 x.field.kind), .sc (.string x.field.deft), .row (x.field.cases.map strD), .sc (.int .i64 x.field.worth), .row (x.forth.map pairD), .row (x.back.map pairD)]
def edgeC (e : EdgeD) : List D := .sc (.int .i64 e.id.r) :: .sc (.int .i64 e.id.n) :: .sc (.int .i64 e.parent.r) :: .sc (.int .i64 e.parent.n) :: lensC e.lens
def eD (e : EdgeD) : D := .agg (edgeC e)
def nodeC (n : NodeD) : List D := .sc (.int .i64 n.edge.id.r) :: .sc (.int .i64 n.edge.id.n) :: .sc (.int .i64 n.edge.parent.r) :: .sc (.int .i64 n.edge.parent.n) :: 
  [.sc (.int .i64 n.edge.lens.kind), .sc (.int .i64 n.edge.lens.at_.scope), .sc (.string n.edge.lens.at_.group), .sc (.string n.edge.lens.at_.name), .sc (.string n.edge.lens.name), .sc (.string n.edge.lens.other), .sc (.int .i64 n.edge.lens.factor),
  .sc (.int .i64 n.edge.lens.field.at_.scope), .sc (.string n.edge.lens.field.at_.group), .sc (.string n.edge.lens.field.at_.name), .sc (.int .i64 n.edge.lens.field.kind), .sc (.string n.edge.lens.field.deft), .row (n.edge.lens.field.cases.map strD), .sc (.int .i64 n.edge.lens.field.worth), .row (n.edge.lens.forth.map pairD), .row (n.edge.lens.back.map pairD),
  .sc (.int .i64 n.state), .row (n.schema.map fD), .sc (.int .i64 n.depth)]
def nD (n : NodeD) : D := .agg (nodeC n)
def noEdge : EdgeD := ⟨noTag, noTag, noLens⟩
def noNode : NodeD := ⟨noEdge, 0, [], 0⟩
theorem tD_inj {a b : TagD} (h : tD a = tD b) : a = b := by
  obtain ⟨a1, a2⟩ := a
  obtain ⟨b1, b2⟩ := b
  simp [tD] at h
  simp [h]
theorem fst_map {α β : Type} {f : α → D} {g : β → D} {l : List (α × β)} : ∀ p ∈ l.map (fun p => (f p.1, g p.2)), ∃ t, p.1 = f t := by
  intro p hp
  obtain ⟨q, _, rfl⟩ := List.mem_map.1 hp
  exact ⟨q.1, rfl⟩
def findT {β : Type} (k : TagD) : List (TagD × β) → Option β
  | [] => none
  | p :: l => if k = p.1 then some p.2 else findT k l
def putT {β : Type} (k : TagD) (v : β) : List (TagD × β) → List (TagD × β)
  | [] => [(k, v)]
  | p :: l => if k = p.1 then (k, v) :: l else p :: putT k v l
theorem findT_map {β : Type} {g : β → D} (k : TagD) : ∀ (l : List (TagD × β)) (i : Nat), (findD (tD k) (l.map fun p => (tD p.1, g p.2)) i).map (·.2) = (findT k l).map g
  | [], _ => rfl
  | p :: l, i => by
    simp only [List.map_cons, findD, findT]
    by_cases e : k = p.1
    · rw [if_pos e, if_pos (by rw [e])]; rfl
    · rw [if_neg e, if_neg (fun h => e (tD_inj h))]; exact findT_map k l (i + 1)
theorem findT_some {β : Type} {g : β → D} (k : TagD) : ∀ (l : List (TagD × β)) (i : Nat), (findD (tD k) (l.map fun p => (tD p.1, g p.2)) i).isSome = (findT k l).isSome := by
  intro l i
  have := findT_map (g := g) k l i
  cases h1 : findD (tD k) (l.map fun p => (tD p.1, g p.2)) i <;> cases h2 : findT k l <;> simp [h1, h2] at this ⊢
theorem putT_map {β : Type} {g : β → D} (k : TagD) (v : β) : ∀ (l : List (TagD × β)), putD (tD k) (g v) (l.map fun p => (tD p.1, g p.2)) = (putT k v l).map fun p => (tD p.1, g p.2)
  | [] => rfl
  | p :: l => by
    simp only [List.map_cons, putD, putT]
    by_cases e : k = p.1
    · rw [if_pos e, if_pos (by rw [e])]; rfl
    · rw [if_neg e, if_neg (fun h => e (tD_inj h)), List.map_cons, putT_map k v l]
def tagB (t : TagD) : Bool := decide (1 ≤ t.r) && decide (t.r ≤ 6) && decide (1 ≤ t.n) && decide (t.n ≤ 1099511627776)
def lessT (a b : TagD) : Bool := if a.r = b.r then decide (a.n < b.n) else decide (a.r < b.r)
def edgeB (e : EdgeD) : Bool := tagB e.id && (decide (e.parent = noTag) || (tagB e.parent && !decide (e.parent = e.id))) && (decide (1 ≤ e.lens.kind) && decide (e.lens.kind ≤ 8) && rightL e.lens)
def rootS : List FieldD := [⟨⟨0, noB, ⟨#[99, 111, 117, 112, 111, 110]⟩⟩, 2, noB, [], 0⟩, ⟨⟨1, noB, ⟨#[110, 111, 116, 101]⟩⟩, 2, noB, [], 0⟩, ⟨⟨1, noB, ⟨#[113, 116, 121]⟩⟩, 1, noB, [], 1⟩, ⟨⟨1, noB, ⟨#[115, 105, 122, 101]⟩⟩, 3, ⟨#[109, 101, 100, 105, 117, 109]⟩, [⟨#[115, 109, 97, 108, 108]⟩, ⟨#[109, 101, 100, 105, 117, 109]⟩, ⟨#[108, 97, 114, 103, 101]⟩], 0⟩, ⟨⟨1, noB, ⟨#[116, 97, 103, 115]⟩⟩, 4, noB, [], 0⟩]
def edgeOf (E : List EdgeD) (id : TagD) : Option EdgeD := E.find? fun e => decide (e.id = id)
def stepC (r : Int × List FieldD × Int) (x : LensD) : Int × List FieldD × Int :=
  if r.1 = 2 then (if (applyS r.2.1 x).2 = 0 then (2, (applyS r.2.1 x).1, r.2.2 + 1) else (3, [], 0)) else if r.1 = 3 then (3, [], 0) else (1, [], 0)
def comes : Nat → List EdgeD → TagD → Int × List FieldD × Int
  | 0, _, _ => (1, [], 0)
  | n + 1, E, id => if id = noTag then (2, rootS, 0) else match edgeOf E id with
    | none => (0, [], 0)
    | some e => stepC (comes n E e.parent) e.lens
def pend (e : EdgeD) : NodeD := ⟨e, 1, [], 0⟩
def nodeOf (E : List EdgeD) (e : EdgeD) : NodeD := let r := comes (E.length + 1) E e.id; ⟨e, r.1, r.2.1, r.2.2⟩
def atT (l : List (TagD × NodeD)) (id : TagD) : NodeD := if id = noTag then ⟨noEdge, 2, rootS, 0⟩ else (findT id l).getD noNode
def nodesOf (E : List EdgeD) : List (TagD × NodeD) := E.map fun e => (e.id, nodeOf E e)
def ents (l : List (TagD × NodeD)) : List (D × D) := l.map fun p => (tD p.1, nD p.2)
theorem look_node (l : List (TagD × NodeD)) (k : TagD) : ((findD (tD k) (ents l) 0).map (·.2)).getD (nD noNode) = nD ((findT k l).getD noNode) := by
  unfold ents
  rw [findT_map (g := nD)]
  cases findT k l <;> rfl
theorem look_found (l : List (TagD × NodeD)) (k : TagD) : (findD (tD k) (ents l) 0).isSome = (findT k l).isSome := findT_some (g := nD) k l 0
theorem ents_keys (l : List (TagD × NodeD)) : ∀ p ∈ ents l, ∃ t : TagD, p.1 = tD t := fst_map
theorem ents_len (l : List (TagD × NodeD)) : (ents l).length = l.length := by simp [ents]
theorem ents_put (l : List (TagD × NodeD)) (k : TagD) (n : NodeD) : putD (tD k) (nD n) (ents l) = ents (putT k n l) := putT_map (g := nD) k n l
theorem at_root {l : List (TagD × NodeD)} {id : TagD} (h : id = noTag) : atT l id = ⟨noEdge, 2, rootS, 0⟩ := if_pos h
theorem at_other {l : List (TagD × NodeD)} {id : TagD} (h : ¬ id = noTag) : atT l id = (findT id l).getD noNode := if_neg h
end Go.Vm
end
section
namespace Go.Vm
abbrev Came := Int × List FieldD × Int
def doneB (r : Came) : Bool := decide (r.1 = 2) || decide (r.1 = 3)
theorem step_done {r : Came} {x : LensD} (h : doneB (stepC r x) = true) : doneB r = true := by
  unfold stepC at h
  split at h
  · rename_i h2; simp [doneB, h2]
  · split at h
    · rename_i h3; simp [doneB, h3]
    · simp [doneB] at h
theorem step_of_done {r : Came} {x : LensD} (h : doneB r = true) : doneB (stepC r x) = true := by
  unfold stepC
  simp only [doneB, Bool.or_eq_true, decide_eq_true_eq] at h
  split
  · split <;> simp [doneB]
  · rename_i h2
    rw [if_pos (h.resolve_left h2)]; simp [doneB]
theorem comes_succ {n : Nat} {E : List EdgeD} {id : TagD} {e : EdgeD} (h0 : ¬ id = noTag) (he : edgeOf E id = some e) : comes (n + 1) E id = stepC (comes n E e.parent) e.lens := by
  simp only [comes, if_neg h0, he]
theorem comes_none {n : Nat} {E : List EdgeD} {id : TagD} (h0 : ¬ id = noTag) (he : edgeOf E id = none) : comes (n + 1) E id = (0, [], 0) := by
  simp only [comes, if_neg h0, he]
theorem comes_root {n : Nat} {E : List EdgeD} : comes (n + 1) E noTag = (2, rootS, 0) := by simp [comes]
theorem comes_mono {E : List EdgeD} : ∀ {n : Nat} {id : TagD}, doneB (comes n E id) = true → comes (n + 1) E id = comes n E id
  | 0, id, h => by simp [comes, doneB] at h
  | n + 1, id, h => by
    by_cases h0 : id = noTag
    · subst h0; rw [comes_root, comes_root]
    · cases he : edgeOf E id with
      | none => rw [comes_none h0 he, comes_none h0 he]
      | some e =>
        rw [comes_succ h0 he, comes_succ (n := n) h0 he]
        rw [comes_succ h0 he] at h
        rw [comes_mono (step_done h)]
theorem comes_more {E : List EdgeD} {n : Nat} {id : TagD} (h : doneB (comes n E id) = true) : ∀ k, comes (n + k) E id = comes n E id
  | 0 => rfl
  | k + 1 => by
    have := comes_more h k
    rw [← Nat.add_assoc, comes_mono (by rw [this]; exact h), this]
def cnt (E : List EdgeD) (n : Nat) : Nat := E.countP fun e => doneB (comes n E e.id)
theorem countP_imp {α : Type} {p q : α → Bool} : ∀ {l : List α}, (∀ a ∈ l, p a = true → q a = true) → l.countP p = l.countP q → ∀ a ∈ l, q a = true → p a = true
  | [], _, _, a, ha, _ => by cases ha
  | b :: l, hi, hc, a, ha, hq => by
    have hle : l.countP p ≤ l.countP q := List.countP_mono_left fun a ha => hi a (List.mem_cons_of_mem _ ha)
    have hb := hi b (List.mem_cons_self ..)
    simp only [List.countP_cons] at hc
    rcases List.mem_cons.1 ha with rfl | ha
    · cases hp : p a with
      | true => rfl
      | false => rw [hp, hq] at hc; simp at hc; omega
    · refine countP_imp (fun a ha => hi a (List.mem_cons_of_mem _ ha)) ?_ a ha hq
      cases hp : p b with
      | true => rw [hp, hb hp] at hc; simpa using hc
      | false =>
        cases hq2 : q b with
        | true => rw [hp, hq2] at hc; simp at hc; omega
        | false => rw [hp, hq2] at hc; simpa using hc
theorem edge_mem {E : List EdgeD} {id : TagD} {e : EdgeD} (h : edgeOf E id = some e) : e ∈ E ∧ e.id = id := by
  unfold edgeOf at h
  exact ⟨List.mem_of_find?_eq_some h, by simpa using List.find?_some h⟩
theorem cnt_still {E : List EdgeD} {n : Nat} (h : cnt E (n + 2) = cnt E (n + 1)) : ∀ k id, doneB (comes (n + 1 + k) E id) = true → doneB (comes (n + 1) E id) = true := by
  have hstep : ∀ id, doneB (comes (n + 2) E id) = true → doneB (comes (n + 1) E id) = true := by
    intro id hd
    by_cases h0 : id = noTag
    · subst h0; rw [comes_root]; rfl
    · cases he : edgeOf E id with
      | none => rw [comes_none h0 he] at hd; simp [doneB] at hd
      | some e =>
        obtain ⟨hm, rfl⟩ := edge_mem he
        exact countP_imp (p := fun e : EdgeD => doneB (comes (n + 1) E e.id)) (q := fun e : EdgeD => doneB (comes (n + 2) E e.id)) (fun a _ ha => by rw [comes_mono ha]; exact ha) h.symm e hm hd
  intro k
  induction k with
  | zero => intro id h; exact h
  | succ k ih =>
    intro id hd
    by_cases h0 : id = noTag
    · subst h0; rw [comes_root]; rfl
    · cases he : edgeOf E id with
      | none => rw [show n + 1 + (k + 1) = (n + 1 + k) + 1 by omega, comes_none h0 he] at hd; simp [doneB] at hd
      | some e =>
        rw [show n + 1 + (k + 1) = (n + 1 + k) + 1 by omega, comes_succ h0 he] at hd
        have := ih e.parent (step_done hd)
        refine hstep id ?_
        rw [comes_succ h0 he]
        exact step_of_done this
theorem cnt_le (E : List EdgeD) (n : Nat) : cnt E n ≤ E.length := List.countP_le_length
theorem cnt_mono (E : List EdgeD) (n : Nat) : cnt E n ≤ cnt E (n + 1) := List.countP_mono_left fun e _ h => by rw [comes_mono h]; exact h
theorem comes_full {E : List EdgeD} {k : Nat} {id : TagD} (h : doneB (comes k E id) = true) : comes (E.length + 1) E id = comes k E id := by
  have key : ∃ n, n ≤ E.length ∧ cnt E (n + 2) = cnt E (n + 1) := by
    apply Classical.byContradiction
    intro hno
    have grow : ∀ n, n ≤ E.length + 1 → n ≤ cnt E (n + 1) := by
      intro n
      induction n with
      | zero => intro _; exact Nat.zero_le _
      | succ n ih =>
        intro hn
        have h1 := ih (by omega)
        have h2 := cnt_mono E (n + 1)
        have h3 : cnt E (n + 2) ≠ cnt E (n + 1) := fun e => hno ⟨n, by omega, e⟩
        show n + 1 ≤ cnt E (n + 2)
        have h4 : cnt E (n + 1) ≤ cnt E (n + 2) := h2
        omega
    have := grow (E.length + 1) (Nat.le_refl _)
    have := cnt_le E (E.length + 1 + 1)
    omega
  obtain ⟨n, hn, hc⟩ := key
  have hst := cnt_still hc
  rcases Nat.le_total k (n + 1) with hk | hk
  · have e1 := comes_more h (E.length + 1 - k)
    rwa [show k + (E.length + 1 - k) = E.length + 1 by omega] at e1
  · have h1 := hst (k - (n + 1)) id (by rw [show n + 1 + (k - (n + 1)) = k by omega]; exact h)
    have e1 := comes_more h1 (k - (n + 1))
    have e2 := comes_more h1 (E.length + 1 - (n + 1))
    rw [show n + 1 + (k - (n + 1)) = k by omega] at e1
    rw [show n + 1 + (E.length + 1 - (n + 1)) = E.length + 1 by omega] at e2
    rw [e1, e2]
def cameOf (E : List EdgeD) (id : TagD) : Came := comes (E.length + 1) E id
theorem came_step {E : List EdgeD} {id : TagD} {e : EdgeD} (h0 : ¬ id = noTag) (he : edgeOf E id = some e) : cameOf E id = stepC (cameOf E e.parent) e.lens := by
  unfold cameOf
  cases hd : doneB (comes (E.length + 1) E e.parent) with
  | true =>
    have : doneB (comes (E.length + 2) E id) = true := by rw [comes_succ h0 he]; exact step_of_done hd
    rw [comes_full this, comes_succ h0 he]
  | false =>
    rw [comes_succ h0 he]
    have h1 : doneB (comes E.length E e.parent) = false := by
      cases h2 : doneB (comes E.length E e.parent) with
      | false => rfl
      | true => rw [comes_mono h2] at hd; rw [hd] at h2; cases h2
    have nd : ∀ r : Came, doneB r = false → stepC r e.lens = (1, [], 0) := by
      intro r hr
      simp only [doneB, Bool.or_eq_false_iff, decide_eq_false_iff_not] at hr
      unfold stepC
      rw [if_neg hr.1, if_neg hr.2]
    rw [nd _ h1, nd _ hd]
theorem came_root {E : List EdgeD} : cameOf E noTag = (2, rootS, 0) := comes_root
structure Good (E : List EdgeD) : Prop where
  ok : ∀ e ∈ E, okX e.lens
  tag : ∀ e ∈ E, ¬ e.id = noTag
  uniq : E.Pairwise fun a b => ¬ a.id = b.id
theorem edge_of_mem {E : List EdgeD} : E.Pairwise (fun a b => ¬ a.id = b.id) → ∀ {e : EdgeD}, e ∈ E → edgeOf E e.id = some e
  | .nil, e, h => by cases h
  | .cons (a := a) (l := l) h1 h2, e, h => by
    unfold edgeOf
    rcases List.mem_cons.1 h with rfl | h
    · simp
    · rw [List.find?_cons_of_neg (by simpa using h1 e h)]
      exact edge_of_mem h2 h
structure Half (E : List EdgeD) (l : List (TagD × NodeD)) : Prop where
  edges : l.map (fun p => p.2.edge) = E
  each : ∀ p ∈ l, p.1 = p.2.edge.id ∧ (p.2 = nodeOf E p.2.edge ∨ p.2 = pend p.2.edge)
theorem findT_mem {β : Type} {k : TagD} : ∀ {l : List (TagD × β)} {n : β}, findT k l = some n → (k, n) ∈ l
  | [], n, h => by cases h
  | p :: l, n, h => by
    unfold findT at h
    split at h
    · rename_i e; injection h with h; subst h e; exact List.mem_cons_self ..
    · exact List.mem_cons_of_mem _ (findT_mem h)
theorem edge_find {l : List (TagD × NodeD)} {k : TagD} : (∀ p ∈ l, p.1 = p.2.edge.id) → edgeOf (l.map fun p => p.2.edge) k = (findT k l).map (·.edge) := by
  induction l with
  | nil => intro _; rfl
  | cons p l ih =>
    intro h
    have hp := h p (List.mem_cons_self ..)
    unfold edgeOf findT
    simp only [List.map_cons]
    by_cases e : k = p.1
    · rw [if_pos e, List.find?_cons_of_pos (by simp [e, hp])]; rfl
    · rw [if_neg e, List.find?_cons_of_neg (by simp only [decide_eq_true_eq]; intro e2; exact e (by rw [hp, e2]))]
      exact ih fun q hq => h q (List.mem_cons_of_mem _ hq)
theorem Half.edge {E : List EdgeD} {l : List (TagD × NodeD)} (h : Half E l) (k : TagD) : edgeOf E k = (findT k l).map (·.edge) := by
  have := edge_find (k := k) fun p hp => (h.each p hp).1
  rwa [h.edges] at this
theorem Half.at {E : List EdgeD} {l : List (TagD × NodeD)} (h : Half E l) {id : TagD} (hs : (atT l id).state = 2 ∨ (atT l id).state = 3) : (atT l id).state = (cameOf E id).1 ∧ (atT l id).schema = (cameOf E id).2.1 ∧ (atT l id).depth = (cameOf E id).2.2 := by
  by_cases h0 : id = noTag
  · subst h0; rw [at_root rfl, came_root]; exact ⟨rfl, rfl, rfl⟩
  · rw [at_other h0] at hs ⊢
    cases hf : findT id l with
    | none => rw [hf] at hs; simp [noNode] at hs
    | some n =>
      rw [hf] at hs
      simp only [Option.getD_some] at hs ⊢
      obtain ⟨h1, h2⟩ := h.each _ (findT_mem hf)
      simp only at h1 h2
      rcases h2 with h2 | h2
      · rw [h2, h1]; exact ⟨rfl, rfl, rfl⟩
      · rw [h2] at hs; simp [pend] at hs
theorem came_undone {E : List EdgeD} {e : EdgeD} (hg : Good E) (he : e ∈ E) (h : doneB (cameOf E e.id) = false) : cameOf E e.id = (1, [], 0) := by
  rw [came_step (hg.tag e he) (edge_of_mem hg.uniq he)] at h ⊢
  cases hd : doneB (cameOf E e.parent) with
  | true => rw [step_of_done hd] at h; cases h
  | false =>
    simp only [doneB, Bool.or_eq_false_iff, decide_eq_false_iff_not] at hd
    unfold stepC
    rw [if_neg hd.1, if_neg hd.2]
theorem node_pend {E : List EdgeD} {e : EdgeD} (hg : Good E) (he : e ∈ E) (h : doneB (cameOf E e.id) = false) : nodeOf E e = pend e := by
  have := came_undone hg he h
  unfold nodeOf pend
  show NodeD.mk e (cameOf E e.id).1 (cameOf E e.id).2.1 (cameOf E e.id).2.2 = _
  rw [this]
theorem Half.pend {E : List EdgeD} {l : List (TagD × NodeD)} (hg : Good E) (h : Half E l) {p : TagD × NodeD} (hp : p ∈ l) (hs : p.2.state = 1) : p.2 = Vm.pend p.2.edge ∧ p.1 = p.2.edge.id ∧ p.2.edge ∈ E := by
  obtain ⟨h1, h2⟩ := h.each p hp
  have hm : p.2.edge ∈ E := by rw [← h.edges]; exact List.mem_map.2 ⟨p, hp, rfl⟩
  refine ⟨?_, h1, hm⟩
  rcases h2 with h2 | h2
  · rw [h2] at hs
    have : doneB (cameOf E p.2.edge.id) = false := by
      have hs : (cameOf E p.2.edge.id).1 = 1 := hs
      simp [doneB, hs]
    rw [h2]; exact node_pend hg hm this
  · exact h2
theorem node_next {E : List EdgeD} {e : EdgeD} (hg : Good E) (he : e ∈ E) : nodeOf E e = ⟨e, (stepC (cameOf E e.parent) e.lens).1, (stepC (cameOf E e.parent) e.lens).2.1, (stepC (cameOf E e.parent) e.lens).2.2⟩ := by
  rw [← came_step (hg.tag e he) (edge_of_mem hg.uniq he)]; rfl
theorem put_at {β : Type} {k : TagD} {v : β} : ∀ {l : List (TagD × β)} {i : Nat} {q : TagD × β}, l[i]? = some q → q.1 = k → (∀ j p, j < i → l[j]? = some p → ¬ p.1 = k) → putT k v l = l.set i (k, v)
  | [], i, q, h, _, _ => by simp at h
  | p :: l, 0, q, h, hk, _ => by
    simp at h; subst h
    unfold putT; rw [if_pos hk.symm]; rfl
  | p :: l, i + 1, q, h, hk, hn => by
    unfold putT
    rw [if_neg (fun e => hn 0 p (Nat.succ_pos _) rfl e.symm)]
    rw [put_at (l := l) (i := i) (by simpa using h) hk (fun j p hj hp => hn (j + 1) p (by omega) (by simpa using hp))]
    rfl
theorem Half.uniq {E : List EdgeD} {l : List (TagD × NodeD)} (hg : Good E) (h : Half E l) {i j : Nat} {p q : TagD × NodeD} (hp : l[i]? = some p) (hq : l[j]? = some q) (hlt : i < j) : ¬ p.1 = q.1 := by
  have h1 : E[i]? = some p.2.edge := by rw [← h.edges, List.getElem?_map, hp]; rfl
  have h2 : E[j]? = some q.2.edge := by rw [← h.edges, List.getElem?_map, hq]; rfl
  obtain ⟨hi, e1⟩ := List.getElem?_eq_some_iff.1 h1
  obtain ⟨hj, e2⟩ := List.getElem?_eq_some_iff.1 h2
  have := (List.pairwise_iff_getElem.1 hg.uniq) i j hi hj hlt
  rw [e1, e2] at this
  rw [(h.each p (List.mem_of_getElem? hp)).1, (h.each q (List.mem_of_getElem? hq)).1]
  exact this
theorem set_self {α : Type} : ∀ {l : List α} {i : Nat} {x : α}, l[i]? = some x → l.set i x = l
  | [], i, x, h => by simp at h
  | y :: l, 0, x, h => by simp at h; subst h; rfl
  | y :: l, i + 1, x, h => by simp only [List.set_cons_succ]; rw [set_self (l := l) (by simpa using h)]
theorem Half.put {E : List EdgeD} {l : List (TagD × NodeD)} (hg : Good E) (h : Half E l) {i : Nat} {q : TagD × NodeD} (hq : l[i]? = some q) : putT q.1 (nodeOf E q.2.edge) l = l.set i (q.1, nodeOf E q.2.edge) ∧ Half E (putT q.1 (nodeOf E q.2.edge) l) := by
  have e := put_at (v := nodeOf E q.2.edge) hq rfl (fun j p hj hp => h.uniq hg hp hq hj)
  refine ⟨e, ?_⟩
  rw [e]
  have hi := (List.getElem?_eq_some_iff.1 hq).1
  constructor
  · rw [List.map_set, ← h.edges]
    show (l.map fun p => p.2.edge).set i q.2.edge = _
    exact set_self (by rw [List.getElem?_map, hq]; rfl)
  · intro p hp
    rcases List.mem_or_eq_of_mem_set hp with hp | rfl
    · exact h.each p hp
    · exact ⟨(h.each q (List.mem_of_getElem? hq)).1, .inl rfl⟩
def pends (l : List (TagD × NodeD)) : Nat := l.countP fun p => decide (p.2.state = 1)
theorem pends_put {l : List (TagD × NodeD)} {i : Nat} {q : TagD × NodeD} {n : NodeD} (hq : l[i]? = some q) (hs : q.2.state = 1) (hn : ¬ n.state = 1) : pends (l.set i (q.1, n)) < pends l := by
  have hi := (List.getElem?_eq_some_iff.1 hq).1
  have hqe := (List.getElem?_eq_some_iff.1 hq).2
  unfold pends
  rw [List.countP_set hi, hqe]
  have : 0 < l.countP fun p => decide (p.2.state = 1) := List.countP_pos_iff.2 ⟨q, List.mem_of_getElem? hq, by simpa using hs⟩
  simp [hs, hn]; omega
def quiet (l : List (TagD × NodeD)) (i : Nat) : Prop := ∀ p, l[i]? = some p → ¬ p.2.state = 1 ∨ (¬ (atT l p.2.edge.parent).state = 2 ∧ ¬ (atT l p.2.edge.parent).state = 3)
theorem Half.over {E : List EdgeD} {l : List (TagD × NodeD)} (hg : Good E) (h : Half E l) (hq : ∀ i, i < l.length → quiet l i) : l = nodesOf E := by
  have key : ∀ n id nd, doneB (comes n E id) = true → ¬ id = noTag → findT id l = some nd → nd = nodeOf E nd.edge := by
    intro n
    induction n with
    | zero => intro id nd hd; simp [comes, doneB] at hd
    | succ n ih =>
      intro id nd hd h0 hf
      have hm := findT_mem hf
      obtain ⟨h1, h2⟩ := h.each _ hm
      simp only at h1 h2
      have he : edgeOf E id = some nd.edge := by rw [h.edge, hf]; rfl
      rcases h2 with h2 | h2
      · exact h2
      · exfalso
        rw [comes_succ h0 he] at hd
        have hd := step_done hd
        obtain ⟨i, hi⟩ := List.getElem?_of_mem hm
        rcases hq i (List.getElem?_eq_some_iff.1 hi).1 _ hi with h3 | ⟨h3, h4⟩
        · simp only at h3; rw [h2] at h3; exact h3 rfl
        · simp only at h3 h4
          by_cases hp : nd.edge.parent = noTag
          · rw [at_root hp] at h3; exact h3 rfl
          · cases hfp : findT nd.edge.parent l with
            | none =>
              have he2 : edgeOf E nd.edge.parent = none := by rw [h.edge, hfp]; rfl
              cases n with
              | zero => simp [comes, doneB] at hd
              | succ n => rw [comes_none hp he2] at hd; simp [doneB] at hd
            | some np =>
              have hnp := ih nd.edge.parent np hd hp hfp
              have h5 := (h.each _ (findT_mem hfp)).1
              simp only at h5
              have hc : cameOf E nd.edge.parent = comes n E nd.edge.parent := comes_full hd
              have hst : np.state = (cameOf E nd.edge.parent).1 := by rw [h5, hnp]; rfl
              rw [at_other hp, hfp] at h3 h4
              simp only [Option.getD_some] at h3 h4
              rw [hst, hc] at h3 h4
              simp only [doneB, Bool.or_eq_true, decide_eq_true_eq] at hd
              exact hd.elim h3 h4
  have each : ∀ p ∈ l, p = (p.2.edge.id, nodeOf E p.2.edge) := by
    intro p hp
    obtain ⟨h1, h2⟩ := h.each p hp
    have hm : p.2.edge ∈ E := by rw [← h.edges]; exact List.mem_map.2 ⟨p, hp, rfl⟩
    have h3 : p.2 = nodeOf E p.2.edge := by
      rcases h2 with h2 | h2
      · exact h2
      · cases hd : doneB (cameOf E p.2.edge.id) with
        | false => rw [node_pend hg hm hd]; exact h2
        | true =>
          have hf : findT p.1 l = some p.2 := by
            have he := h.edge p.1
            rw [h1, edge_of_mem hg.uniq hm] at he
            cases hf : findT p.2.edge.id l with
            | none => rw [hf] at he; cases he
            | some n =>
              rw [h1, hf]
              obtain ⟨i, hi⟩ := List.getElem?_of_mem hp
              obtain ⟨j, hj⟩ := List.getElem?_of_mem (findT_mem hf)
              rcases Nat.lt_trichotomy i j with hij | hij | hij
              · exact absurd (by simpa using h1) (h.uniq hg hi hj hij)
              · subst hij; rw [hi] at hj; injection hj with hj; rw [hj]
              · exact absurd (by simpa using h1.symm) (h.uniq hg hj hi hij)
          exact key _ p.1 p.2 (by rw [h1]; exact hd) (by rw [h1]; exact hg.tag _ hm) hf
    exact Prod.ext h1 h3
  have e : nodesOf E = l.map fun p => (p.2.edge.id, nodeOf E p.2.edge) := by
    have := congrArg (List.map fun e : EdgeD => (e.id, nodeOf E e)) h.edges
    rw [List.map_map] at this
    exact this.symm
  rw [e]
  conv => lhs; rw [← List.map_id l]
  exact List.map_congr_left fun p hp => each p hp
theorem ents_at {l : List (TagD × NodeD)} {i : Nat} {p : D × D} (h : (ents l)[i]? = some p) : ∃ q, l[i]? = some q ∧ p = (tD q.1, nD q.2) := by
  unfold ents at h
  rw [List.getElem?_map] at h
  obtain ⟨q, h1, h2⟩ := Option.map_eq_some_iff.1 h
  exact ⟨q, h1, h2.symm⟩
theorem okL_root : okL rootS := by
  refine ⟨by decide, ?_⟩
  intro f hf
  simp only [rootS, List.mem_cons, List.not_mem_nil, or_false] at hf
  rcases hf with rfl | rfl | rfl | rfl | rfl <;> decide
theorem okL_comes {E : List EdgeD} (hok : ∀ e ∈ E, okX e.lens) : ∀ n id, okL (comes n E id).2.1
  | 0, id => okL_nil
  | n + 1, id => by
    by_cases h0 : id = noTag
    · subst h0; rw [comes_root]; exact okL_root
    · cases he : edgeOf E id with
      | none => rw [comes_none h0 he]; exact okL_nil
      | some e =>
        rw [comes_succ h0 he]
        unfold stepC
        split
        · split
          · exact okL_apply (okL_comes hok n e.parent) (hok e (edge_mem he).1)
          · exact okL_nil
        · split <;> exact okL_nil
def unseen (n : Nat) (seen : List Nat) : Nat := ((List.range n).filter fun i => !seen.contains i).length
theorem unseen_next {n i : Nat} {seen : List Nat} (hi : i < n) (hs : i ∉ seen) : unseen n (seen ++ [i]) < unseen n seen := by
  unfold unseen
  have e : ((List.range n).filter fun j => !(seen ++ [i]).contains j) = ((List.range n).filter fun j => !seen.contains j).filter fun j => !(j == i) := by
    rw [List.filter_filter]
    congr 1
    funext j
    simp only [List.contains_append, Bool.not_or]
    rw [Bool.and_comm]
    congr 1
    simp
    rw [Bool.eq_iff_iff]; simp
  rw [e]
  refine List.length_filter_lt_length_iff_exists.2 ⟨i, List.mem_filter.2 ⟨List.mem_range.2 hi, by simpa using hs⟩, by simp⟩
theorem nodes_half {E : List EdgeD} {e : EdgeD} (hg : Good (E ++ [e])) : Half (E ++ [e]) (nodesOf E ++ [(e.id, pend e)]) := by
  have hgE : Good E := ⟨fun x hx => hg.ok x (List.mem_append_left _ hx), fun x hx => hg.tag x (List.mem_append_left _ hx), (List.pairwise_append.1 hg.uniq).1⟩
  have more : ∀ n id, doneB (comes n E id) = true → comes n (E ++ [e]) id = comes n E id := by
    intro n
    induction n with
    | zero => intro id h; rfl
    | succ n ih =>
      intro id h
      by_cases h0 : id = noTag
      · subst h0; rw [comes_root, comes_root]
      · cases he : edgeOf E id with
        | none => rw [comes_none h0 he] at h; simp [doneB] at h
        | some f =>
          have he2 : edgeOf (E ++ [e]) id = some f := by unfold edgeOf at *; rw [List.find?_append, he]; rfl
          rw [comes_succ h0 he] at h
          rw [comes_succ h0 he, comes_succ h0 he2, ih _ (step_done h)]
  constructor
  · unfold nodesOf
    rw [List.map_append, List.map_map]
    show E.map (fun f => f) ++ [e] = _
    rw [List.map_id']
  · intro p hp
    rcases List.mem_append.1 hp with hp | hp
    · obtain ⟨f, hf, rfl⟩ := List.mem_map.1 hp
      refine ⟨rfl, ?_⟩
      show nodeOf E f = nodeOf (E ++ [e]) f ∨ nodeOf E f = pend f
      cases hd : doneB (cameOf E f.id) with
      | true =>
        left
        have h1 : cameOf (E ++ [e]) f.id = cameOf E f.id := by
          have h2 : comes (E.length + 1) (E ++ [e]) f.id = cameOf E f.id := more _ _ hd
          rw [← h2]
          exact comes_full (by rw [h2]; exact hd)
        show NodeD.mk f (cameOf E f.id).1 (cameOf E f.id).2.1 (cameOf E f.id).2.2 = NodeD.mk f (cameOf (E ++ [e]) f.id).1 (cameOf (E ++ [e]) f.id).2.1 (cameOf (E ++ [e]) f.id).2.2
        rw [h1]
      | false => exact .inr (node_pend hgE hf hd)
    · rw [List.mem_singleton.1 hp]; exact ⟨rfl, .inr rfl⟩
theorem putT_new {β : Type} {k : TagD} {v : β} : ∀ {l : List (TagD × β)}, findT k l = none → putT k v l = l ++ [(k, v)]
  | [], _ => rfl
  | p :: l, h => by
    unfold findT at h
    split at h
    · cases h
    · rename_i e
      unfold putT; rw [if_neg e, putT_new h]; rfl
theorem find_nodes (E : List EdgeD) (k : TagD) : findT k (nodesOf E) = (edgeOf E k).map (nodeOf E) := by
  unfold nodesOf
  generalize nodeOf E = g
  induction E with
  | nil => rfl
  | cons e E ih =>
    simp only [List.map_cons, findT, edgeOf]
    by_cases h : k = e.id
    · rw [if_pos h, List.find?_cons_of_pos (by simp [h])]; rfl
    · rw [if_neg h, List.find?_cons_of_neg (by simp only [decide_eq_true_eq]; exact fun e => h e.symm)]; exact ih
def putE (E : List EdgeD) (e : EdgeD) : List EdgeD × Int :=
  if edgeB e = false then (E, 5) else match edgeOf E e.id with
    | some f => if f = e then (E, 7) else (E, 15)
    | none => if 40 ≤ E.length then (E, 9) else (E ++ [e], 0)
theorem edgeOf_none {E : List EdgeD} {k : TagD} (h : edgeOf E k = none) : ∀ f ∈ E, ¬ f.id = k := by
  intro f hf e
  unfold edgeOf at h
  have := List.find?_eq_none.1 h f hf
  simp [e] at this
theorem tag_real {t : TagD} (h : tagB t = true) : ¬ t = noTag := by
  rintro rfl; simp [tagB, noTag] at h
theorem Good.more {E : List EdgeD} {e : EdgeD} (hg : Good E) (hx : okX e.lens) (hb : edgeB e = true) (hn : edgeOf E e.id = none) : Good (E ++ [e]) := by
  have ht : tagB e.id = true := by unfold edgeB at hb; simp only [Bool.and_eq_true] at hb; exact hb.1.1
  refine ⟨fun x hx2 => ?_, fun x hx2 => ?_, List.pairwise_append.2 ⟨hg.uniq, List.pairwise_singleton .., fun a ha b hb => ?_⟩⟩
  · rcases List.mem_append.1 hx2 with h | h
    · exact hg.ok x h
    · rw [List.mem_singleton.1 h]; exact hx
  · rcases List.mem_append.1 hx2 with h | h
    · exact hg.tag x h
    · rw [List.mem_singleton.1 h]; exact tag_real ht
  · rw [List.mem_singleton.1 hb]; exact edgeOf_none hn a ha
theorem Good.put {E : List EdgeD} {e : EdgeD} (hg : Good E) (hx : okX e.lens) : Good (putE E e).1 := by
  unfold putE
  split
  · exact hg
  · rename_i hb
    split
    · split <;> exact hg
    · rename_i hn
      split
      · exact hg
      · exact hg.more hx (by simpa using hb) hn
theorem depth_le {E : List EdgeD} : ∀ n id, 0 ≤ (comes n E id).2.2 ∧ (comes n E id).2.2 ≤ n
  | 0, id => by simp [comes]
  | n + 1, id => by
    by_cases h0 : id = noTag
    · subst h0; rw [comes_root]; simp; omega
    · cases he : edgeOf E id with
      | none => rw [comes_none h0 he]; simp; omega
      | some e =>
        rw [comes_succ h0 he]
        have := depth_le (E := E) n e.parent
        unfold stepC
        split
        · split
          · simp only; omega
          · simp; omega
        · split <;> (simp; omega)
section
variable {E : List EdgeD} {l : List (TagD × NodeD)} {e : EdgeD} {n : NodeD}
theorem Half.dead (hg : Good E) (h : Half E l) (hm : n.edge ∈ E) (hp : n = Vm.pend n.edge) (h3 : (atT l n.edge.parent).state = 3) : nodeOf E n.edge = ⟨n.edge, 3, n.schema, n.depth⟩ := by
  have hs : n.schema = [] := by rw [hp]; rfl
  have hd : n.depth = 0 := by rw [hp]; rfl
  have hat := (h.at (.inr h3)).1
  rw [node_next hg hm, hs, hd]
  unfold stepC
  rw [if_neg (by rw [← hat, h3]; decide), if_pos (by rw [← hat, h3])]
theorem Half.unfit (hg : Good E) (h : Half E l) (hm : n.edge ∈ E) (hp : n = Vm.pend n.edge) (h2 : (atT l n.edge.parent).state = 2) (hc : ¬ (applyS (atT l n.edge.parent).schema n.edge.lens).2 = 0) : nodeOf E n.edge = ⟨n.edge, 3, n.schema, n.depth⟩ := by
  have hs : n.schema = [] := by rw [hp]; rfl
  have hd : n.depth = 0 := by rw [hp]; rfl
  have hat := h.at (.inl h2)
  rw [node_next hg hm, hs, hd]
  unfold stepC
  rw [if_pos (by rw [← hat.1, h2]), if_neg (by rw [← hat.2.1]; exact hc)]
theorem Half.live (hg : Good E) (h : Half E l) (hm : n.edge ∈ E) (h2 : (atT l n.edge.parent).state = 2) (hc : (applyS (atT l n.edge.parent).schema n.edge.lens).2 = 0) : nodeOf E n.edge = ⟨n.edge, 2, (applyS (atT l n.edge.parent).schema n.edge.lens).1, (atT l n.edge.parent).depth + 1⟩ := by
  have hat := h.at (.inl h2)
  rw [node_next hg hm]
  unfold stepC
  rw [if_pos (by rw [← hat.1, h2]), if_pos (by rw [← hat.2.1]; exact hc), hat.2.1, hat.2.2]
end
section
variable {E : List EdgeD} {e f : EdgeD}
theorem put_e5 (h : edgeB e = false) : putE E e = (E, 5) := if_pos h
theorem put_e7 (h : edgeB e = true) (hf : edgeOf E e.id = some f) (hs : f = e) : putE E e = (E, 7) := by unfold putE; rw [if_neg (by rw [h]; simp), hf]; exact if_pos hs
theorem put_e15 (h : edgeB e = true) (hf : edgeOf E e.id = some f) (hs : ¬ f = e) : putE E e = (E, 15) := by unfold putE; rw [if_neg (by rw [h]; simp), hf]; exact if_neg hs
theorem put_e9 (h : edgeB e = true) (hf : edgeOf E e.id = none) (hs : 40 ≤ E.length) : putE E e = (E, 9) := by unfold putE; rw [if_neg (by rw [h]; simp), hf]; exact if_pos hs
theorem put_e0 (h : edgeB e = true) (hf : edgeOf E e.id = none) (hs : ¬ 40 ≤ E.length) : putE E e = (E ++ [e], 0) := by unfold putE; rw [if_neg (by rw [h]; simp), hf]; exact if_neg hs
theorem find_some {k : TagD} (h : (findT k (nodesOf E)).isSome = true) : ∃ f, edgeOf E k = some f ∧ (findT k (nodesOf E)).getD noNode = nodeOf E f ∧ f ∈ E := by
  rw [find_nodes] at h ⊢
  cases hf : edgeOf E k with
  | none => rw [hf] at h; cases h
  | some f => exact ⟨f, rfl, rfl, (edge_mem hf).1⟩
theorem find_miss {k : TagD} (h : (findT k (nodesOf E)).isSome = false) : edgeOf E k = none ∧ findT k (nodesOf E) = none := by
  rw [find_nodes] at h ⊢
  cases hf : edgeOf E k with
  | none => exact ⟨rfl, rfl⟩
  | some f => rw [hf] at h; cases h
theorem nodes_len : (ents (nodesOf E)).length = E.length := by simp [ents, nodesOf]
end
end Go.Vm
end
section
namespace Go.Vm
open Go.Proofs.YtmmffeldlhofiaaGreatDoor Punnet.Name Punnet.Num
-- places
def placeL (r : RefD) : List UInt8 := (if r.scope = 1 then [108, 105, 110, 101] else [104, 101, 97, 100]) ++ ((if r.group = noB then [] else 46 :: r.group.data.toList) ++ 46 :: r.name.data.toList)
def placeT (r : RefD) : ByteArray := mkB (placeL r)
def scopeB (r : RefD) : ByteArray := if r.scope = 1 then (⟨#[108, 105, 110, 101]⟩ : ByteArray) else (⟨#[104, 101, 97, 100]⟩ : ByteArray)
theorem placeB_parts {r : RefD} (h : placeB r = true) : (r.scope = 0 ∨ r.scope = 1) ∧ nameB r.name = true ∧ (r.group = noB ∨ nameB r.group = true) := by
  unfold placeB at h
  simp only [Bool.and_eq_true, Bool.or_eq_true, decide_eq_true_eq] at h
  exact ⟨h.1.1, h.1.2, h.2⟩
theorem place_split {r : RefD} (h : placeB r = true) : splitW 46 (placeT r) = scopeB r :: (if r.group = noB then [r.name] else [r.group, r.name]) := by
  obtain ⟨h0, h1, h2⟩ := placeB_parts h
  have hn : (46 : UInt8) ∉ r.name.data.toList := nameB_free h1 (by decide)
  unfold splitW placeT placeL scopeB
  rw [mkB_data]
  by_cases hg : r.group = noB
  · rw [if_pos hg, if_pos hg, List.nil_append]
    split
    · rw [splitC_app _ (by decide), splitC_free hn]; simp [mkB_of]
    · rw [splitC_app _ (by decide), splitC_free hn]; simp [mkB_of]
  · have hgf : (46 : UInt8) ∉ r.group.data.toList := nameB_free (h2.resolve_left hg) (by decide)
    rw [if_neg hg, if_neg hg, List.cons_append]
    split
    · rw [splitC_app _ (by decide), splitC_app _ hgf, splitC_free hn]; simp [mkB_of]
    · rw [splitC_app _ (by decide), splitC_app _ hgf, splitC_free hn]; simp [mkB_of]
def candR (l : List ByteArray) : RefD := ⟨if l.getD 0 noB = (⟨#[108, 105, 110, 101]⟩ : ByteArray) then 1 else 0, if l.length = 3 then l.getD 1 noB else noB, if l.length = 2 then l.getD 1 noB else if l.length = 3 then l.getD 2 noB else noB⟩
theorem cand_place {r : RefD} (h : placeB r = true) : candR (splitW 46 (placeT r)) = r := by
  obtain ⟨h0, h1, h2⟩ := placeB_parts h
  rw [place_split h]
  obtain ⟨sc, g, n⟩ := r
  unfold candR scopeB
  by_cases hg : g = noB
  · subst hg
    rcases h0 with h0 | h0
    · simp only at h0; subst h0; rfl
    · simp only at h0; subst h0; rfl
  · rcases h0 with h0 | h0
    · simp only at h0; subst h0; simp only [if_neg hg]; rfl
    · simp only at h0; subst h0; simp only [if_neg hg]; rfl
theorem place_inj {r q : RefD} (h : placeB r = true) (k : placeB q = true) (e : placeT r = placeT q) : r = q := by
  rw [← cand_place h, ← cand_place k, e]
open Classical in
noncomputable def placeOf (s : ByteArray) : Option RefD := if h : ∃ r, placeB r = true ∧ placeT r = s then some h.choose else none
theorem placeOf_some {r : RefD} {s : ByteArray} (h : placeB r = true) (e : placeT r = s) : placeOf s = some r := by
  have hx : ∃ r, placeB r = true ∧ placeT r = s := ⟨r, h, e⟩
  unfold placeOf
  rw [dif_pos hx]
  exact congrArg some (place_inj hx.choose_spec.1 h (hx.choose_spec.2.trans e.symm))
theorem placeOf_inv {r : RefD} {s : ByteArray} (h : placeOf s = some r) : placeB r = true ∧ placeT r = s := by
  unfold placeOf at h
  split at h
  · rename_i hx; injection h with h; subst h; exact hx.choose_spec
  · cases h
theorem placeOf_none {s : ByteArray} (h : ∀ r, placeB r = true → placeT r = s → False) : placeOf s = none := by
  cases e : placeOf s with
  | none => rfl
  | some r => exact absurd (placeOf_inv e).2 (fun k => h r (placeOf_inv e).1 k)
theorem scopeB_two (r : RefD) : scopeB r = (⟨#[104, 101, 97, 100]⟩ : ByteArray) ∨ scopeB r = (⟨#[108, 105, 110, 101]⟩ : ByteArray) := by unfold scopeB; split; exact .inr rfl; exact .inl rfl
theorem place_no1 {s : ByteArray} (h : ¬ (splitW 46 s).getD 0 noB = (⟨#[104, 101, 97, 100]⟩ : ByteArray)) (h2 : ¬ (splitW 46 s).getD 0 noB = (⟨#[108, 105, 110, 101]⟩ : ByteArray)) : placeOf s = none := placeOf_none fun r hr e => by
  rw [← e, place_split hr] at h h2
  rcases scopeB_two r with k | k
  · exact h k
  · exact h2 k
theorem place_no2 {s : ByteArray} (h : placeB (candR (splitW 46 s)) = false) : placeOf s = none := placeOf_none fun r hr e => by
  rw [← e, cand_place hr, hr] at h; cases h
theorem place_no3 {s : ByteArray} (h : ¬ placeT (candR (splitW 46 s)) = s) : placeOf s = none := placeOf_none fun r hr e => by
  rw [← e, cand_place hr] at h; exact h rfl
-- as the document reads it
def gnTo (s : ByteArray) : Nat → ByteArray × ByteArray
  | 0 => (noB, s.extract 5 s.size)
  | k + 1 => if s[5 + k]? = some 46 ∧ (gnTo s k).1 = noB then (s.extract 5 (5 + k), s.extract (5 + k + 1) s.size) else gnTo s k
theorem ext_data (s : ByteArray) (a b : Nat) : (s.extract a b).data.toList = (s.data.toList.take b).drop a := by
  rw [Lib.extract_data, List.drop_take]
theorem get_data' (s : ByteArray) (k : Nat) : s[k]? = s.data.toList[k]? := by
  by_cases h : k < s.size
  · rw [getElem?_pos s k h, List.getElem?_eq_getElem (by exact h)]; rfl
  · rw [List.getElem?_eq_none (by have := ba_len s; omega)]
    exact getElem?_neg s k h
theorem gn_calm {s : ByteArray} {k : Nat} (h : ∀ j, j < k → ¬ s[5 + j]? = some 46) : gnTo s k = (noB, s.extract 5 s.size) := by
  induction k with
  | zero => rfl
  | succ k ih => rw [gnTo, if_neg (fun x => h k (by omega) x.1), ih fun j hj => h j (by omega)]
theorem gn_stay {s : ByteArray} {k : Nat} (h : ¬ (gnTo s k).1 = noB) : ∀ d, gnTo s (k + d) = gnTo s k
  | 0 => rfl
  | d + 1 => by rw [← Nat.add_assoc, gnTo, gn_stay h d, if_neg (fun x => h x.2)]
def scopeL (r : RefD) : List UInt8 := if r.scope = 1 then [108, 105, 110, 101] else [104, 101, 97, 100]
theorem scopeL_len (r : RefD) : (scopeL r).length = 4 := by unfold scopeL; split <;> rfl
theorem gn_place {r : RefD} (h : placeB r = true) : gnTo (placeT r) ((placeT r).size - 5) = (r.group, r.name) := by
  obtain ⟨h0, h1, h2⟩ := placeB_parts h
  have hn : (46 : UInt8) ∉ r.name.data.toList := nameB_free h1 (by decide)
  have hd : (placeT r).data.toList = scopeL r ++ ((if r.group = noB then [] else 46 :: r.group.data.toList) ++ 46 :: r.name.data.toList) := mkB_data _
  have h4 := scopeL_len r
  have hsz : (placeT r).size = (placeT r).data.toList.length := (ba_len _).symm
  by_cases hg : r.group = noB
  · rw [if_pos hg, List.nil_append] at hd
    have hsz2 : (placeT r).size = 5 + r.name.data.toList.length := by rw [hsz, hd, List.length_append, h4, List.length_cons]; omega
    rw [gn_calm, hg]
    · congr 1
      apply ba_ext
      rw [ext_data, hsz, List.take_length, hd, show scopeL r ++ 46 :: r.name.data.toList = (scopeL r ++ [46]) ++ r.name.data.toList by simp, List.drop_left' (by rw [List.length_append, h4]; rfl)]
    · intro j hj e
      rw [get_data', hd, show scopeL r ++ 46 :: r.name.data.toList = (scopeL r ++ [46]) ++ r.name.data.toList by simp, List.getElem?_append_right (by rw [List.length_append, h4, List.length_singleton]; omega)] at e
      exact hn (List.mem_of_getElem? e)
  · rw [if_neg hg, List.cons_append] at hd
    have hgf : (46 : UInt8) ∉ r.group.data.toList := nameB_free (h2.resolve_left hg) (by decide)
    have hd2 : (placeT r).data.toList = (scopeL r ++ [46]) ++ (r.group.data.toList ++ 46 :: r.name.data.toList) := by rw [hd]; simp
    have h5 : (scopeL r ++ [46]).length = 5 := by rw [List.length_append, h4]; rfl
    have hsz2 : (placeT r).size = 5 + (r.group.data.toList.length + (1 + r.name.data.toList.length)) := by rw [hsz, hd2, List.length_append, h5, List.length_append, List.length_cons]; omega
    have c1 : gnTo (placeT r) r.group.data.toList.length = (noB, (placeT r).extract 5 (placeT r).size) := gn_calm fun j hj e => by
      rw [get_data', hd2, List.getElem?_append_right (by rw [h5]; omega), h5, Nat.add_sub_cancel_left, List.getElem?_append_left hj] at e
      exact hgf (List.mem_of_getElem? e)
    have c2 : gnTo (placeT r) (r.group.data.toList.length + 1) = (r.group, r.name) := by
      rw [gnTo, c1, if_pos]
      · congr 1
        · apply ba_ext
          rw [ext_data, hd2, List.drop_take, List.drop_left' h5, Nat.add_sub_cancel_left, List.take_left]
        · apply ba_ext
          rw [ext_data, hsz, List.take_length, hd2, show (scopeL r ++ [46]) ++ (r.group.data.toList ++ 46 :: r.name.data.toList) = ((scopeL r ++ [46]) ++ (r.group.data.toList ++ [46])) ++ r.name.data.toList by simp, List.drop_left' (by rw [List.length_append, h5, List.length_append, List.length_singleton]; omega)]
      · refine ⟨?_, rfl⟩
        rw [get_data', hd2, List.getElem?_append_right (by rw [h5]; omega), h5, Nat.add_sub_cancel_left, List.getElem?_append_right (Nat.le_refl _), Nat.sub_self]; rfl
    have hne : ¬ (gnTo (placeT r) (r.group.data.toList.length + 1)).1 = noB := by rw [c2]; exact hg
    rw [show (placeT r).size - 5 = r.group.data.toList.length + 1 + r.name.data.toList.length by omega, gn_stay hne, c2]
def candR2 (s : ByteArray) : RefD := ⟨if s[0]? = some 108 then 1 else 0, (gnTo s (s.size - 5)).1, (gnTo s (s.size - 5)).2⟩
theorem cand2_place {r : RefD} (h : placeB r = true) : candR2 (placeT r) = r := by
  obtain ⟨h0, _, _⟩ := placeB_parts h
  unfold candR2
  rw [gn_place h, get_data', show (placeT r).data.toList = placeL r from mkB_data _]
  obtain ⟨sc, g, n⟩ := r
  unfold placeL
  rcases h0 with h0 | h0
  · simp only at h0; subst h0; rfl
  · simp only at h0; subst h0; rfl
theorem place_size {r : RefD} (h : placeB r = true) : 6 ≤ (placeT r).size := by
  obtain ⟨h0, h1, _⟩ := placeB_parts h
  have hn := nameB_ne h1
  have : 0 < r.name.data.toList.length := List.length_pos_iff.2 hn
  rw [← ba_len, show (placeT r).data.toList = placeL r from mkB_data _]
  unfold placeL
  have h4 := scopeL_len r
  unfold scopeL at h4
  simp only [List.length_append, List.length_cons]
  omega
theorem place_first {r : RefD} : (placeT r).extract 0 5 = (⟨#[104, 101, 97, 100, 46]⟩ : ByteArray) ∨ (placeT r).extract 0 5 = (⟨#[108, 105, 110, 101, 46]⟩ : ByteArray) := by
  have : ((placeT r).extract 0 5).data.toList = scopeL r ++ [46] := by
    rw [ext_data, show (placeT r).data.toList = placeL r from mkB_data _]
    unfold placeL scopeL
    split <;> split <;> rfl
  unfold scopeL at this
  split at this
  · exact .inr (ba_ext this)
  · exact .inl (ba_ext this)
theorem place2_no1 {s : ByteArray} (h : s.size < 6) : placeOf s = none := placeOf_none fun r hr e => by have := place_size hr; rw [e] at this; omega
theorem place2_no2 {s : ByteArray} (h : ¬ s.extract 0 5 = (⟨#[104, 101, 97, 100, 46]⟩ : ByteArray)) (h2 : ¬ s.extract 0 5 = (⟨#[108, 105, 110, 101, 46]⟩ : ByteArray)) : placeOf s = none := placeOf_none fun r hr e => by
  rcases place_first (r := r) with k | k
  · rw [e] at k; exact h k
  · rw [e] at k; exact h2 k
theorem place2_no3 {s : ByteArray} (h : placeB (candR2 s) = false) : placeOf s = none := placeOf_none fun r hr e => by
  rw [← e, cand2_place hr, hr] at h; cases h
theorem place2_no4 {s : ByteArray} (h : ¬ placeT (candR2 s) = s) : placeOf s = none := placeOf_none fun r hr e => by
  rw [← e, cand2_place hr] at h; exact h rfl
theorem place_bytes {r : RefD} (h : placeB r = true) : ∀ c ∈ (placeT r).data.toList, (97 ≤ c.toNat ∧ c.toNat ≤ 122) ∨ (48 ≤ c.toNat ∧ c.toNat ≤ 57) ∨ c.toNat = 46 := by
  obtain ⟨h0, h1, h2⟩ := placeB_parts h
  intro c hc
  rw [show (placeT r).data.toList = placeL r from mkB_data _] at hc
  unfold placeL at hc
  rcases List.mem_append.1 hc with k | k
  · have : ∀ x ∈ (if r.scope = 1 then [108, 105, 110, 101] else [104, 101, 97, 100] : List UInt8), 97 ≤ x.toNat ∧ x.toNat ≤ 122 := by split <;> decide
    exact .inl (this c k)
  · rcases List.mem_append.1 k with k | k
    · split at k
      · cases k
      · rename_i hg
        rcases List.mem_cons.1 k with rfl | k
        · exact .inr (.inr rfl)
        · rcases nameB_bytes (h2.resolve_left hg) c k with q | q
          · exact .inl q
          · exact .inr (.inl q)
    · rcases List.mem_cons.1 k with rfl | k
      · exact .inr (.inr rfl)
      · rcases nameB_bytes h1 c k with q | q
        · exact .inl q
        · exact .inr (.inl q)
-- tags
def tagT (t : TagD) : ByteArray := mkB (print t.r ++ 46 :: print t.n)
def tagIn (t : TagD) : Prop := inI64 t.r ∧ inI64 t.n
theorem print_free (n : Int) {c : UInt8} (hc : c.toNat < 45 ∨ (45 < c.toNat ∧ c.toNat < 48) ∨ 57 < c.toNat) : c ∉ print n := by
  have hd := digs_digits n.natAbs
  unfold print
  intro k
  split at k
  · rcases List.mem_cons.1 k with k | k
    · rw [k] at hc; revert hc; decide
    · have := hd c k; omega
  · have := hd c k; omega
theorem tag_cut (t : TagD) : cutC 46 (tagT t).data.toList = (print t.r, print t.n, true) := by
  unfold tagT; rw [mkB_data]; exact cutC_hit (print_free _ (by decide))
theorem tagT_inj {t u : TagD} (h : tagIn t) (k : tagIn u) (e : tagT t = tagT u) : t = u := by
  have h1 := tag_cut t
  rw [e, tag_cut u] at h1
  injection h1 with h1 h2
  injection h2 with h2 _
  have q1 := print_read (n := t.r) (by have := h.1; omega) (by have := h.1; omega)
  have q2 := print_read (n := u.r) (by have := k.1; omega) (by have := k.1; omega)
  have q3 := print_read (n := t.n) (by have := h.2; omega) (by have := h.2; omega)
  have q4 := print_read (n := u.n) (by have := k.2; omega) (by have := k.2; omega)
  rw [← h1, q2] at q1
  rw [← h2, q4] at q3
  obtain ⟨a, b⟩ := t
  obtain ⟨a', b'⟩ := u
  injection q1 with q1 _
  injection q3 with q3 _
  simp only at q1 q3
  rw [q1, q3]
open Classical in
noncomputable def tagOf (s : ByteArray) : Option TagD := if h : ∃ t, tagIn t ∧ tagT t = s then some h.choose else none
theorem tagOf_some {t : TagD} {s : ByteArray} (h : tagIn t) (e : tagT t = s) : tagOf s = some t := by
  have hx : ∃ t, tagIn t ∧ tagT t = s := ⟨t, h, e⟩
  unfold tagOf
  rw [dif_pos hx]
  exact congrArg some (tagT_inj hx.choose_spec.1 h (hx.choose_spec.2.trans e.symm))
theorem tagOf_inv {t : TagD} {s : ByteArray} (h : tagOf s = some t) : tagIn t ∧ tagT t = s := by
  unfold tagOf at h
  split at h
  · rename_i hx; injection h with h; subst h; exact hx.choose_spec
  · cases h
theorem tagOf_none {s : ByteArray} (h : ∀ t, tagIn t → tagT t = s → False) : tagOf s = none := by
  cases e : tagOf s with
  | none => rfl
  | some r => exact absurd (tagOf_inv e).2 (fun k => h r (tagOf_inv e).1 k)
theorem tag_cutC {s : ByteArray} {a b : List UInt8} {f : Bool} (h : cutC 46 s.data.toList = (a, b, f)) (h1 : (readOf a).2 = 0) (h2 : (readOf b).2 = 0) : tagOf s = some ⟨(readOf a).1, (readOf b).1⟩ := by
  obtain ⟨p1, p2, p3⟩ := read_print h1
  obtain ⟨q1, q2, q3⟩ := read_print h2
  refine tagOf_some (t := ⟨(readOf a).1, (readOf b).1⟩) ⟨⟨by omega, by show (readOf a).1 < _; omega⟩, ⟨by omega, by show (readOf b).1 < _; omega⟩⟩ ?_
  by_cases hc : (46 : UInt8) ∈ s.data.toList
  · obtain ⟨x, r, e, hx⟩ := mem_split hc
    rw [e, cutC_hit hx] at h
    injection h with e1 h
    injection h with e2 _
    apply ba_ext
    unfold tagT
    rw [mkB_data, e, p1, q1, e1, e2]
  · rw [cutC_miss hc] at h
    injection h with e1 h
    injection h with e2 _
    rw [← e2] at h2
    exact absurd h2 (by decide)
theorem tag_cutC_no {s : ByteArray} {a b : List UInt8} {f : Bool} (h : cutC 46 s.data.toList = (a, b, f)) (h1 : ¬ ((readOf a).2 = 0 ∧ (readOf b).2 = 0)) : tagOf s = none := tagOf_none fun t ht e => by
  rw [← e, tag_cut t] at h
  injection h with e1 h
  injection h with e2 _
  apply h1
  rw [← e1, ← e2, print_read (by have := ht.1; omega) (by have := ht.1; omega), print_read (by have := ht.2; omega) (by have := ht.2; omega)]
  exact ⟨rfl, rfl⟩
end Go.Vm
end
section
namespace Go.Vm
open Go.Proofs.YtmmffeldlhofiaaGreatDoor Punnet.Name Punnet.Num
def quoteB (s : ByteArray) : ByteArray := mkB (quoteL s.data.toList)
def fieldW (f : FieldD) : List ByteArray :=
  if f.kind = 1 then [(⟨#[99, 111, 117, 110, 116, 101, 114]⟩ : ByteArray), placeT f.at_, printB f.worth]
  else if f.kind = 2 then [(⟨#[114, 101, 103, 105, 115, 116, 101, 114]⟩ : ByteArray), placeT f.at_, quoteB f.deft]
  else if f.kind = 3 then [(⟨#[101, 110, 117, 109]⟩ : ByteArray), placeT f.at_, f.deft, joinW 44 f.cases]
  else [(⟨#[108, 105, 115, 116]⟩ : ByteArray), placeT f.at_]
def pairT (p : ByteArray × ByteArray) : ByteArray := mkB (p.1.data.toList ++ 62 :: p.2.data.toList)
def pairsT (l : List (ByteArray × ByteArray)) : ByteArray := joinW 44 (l.map pairT)
def lensW (x : LensD) : List ByteArray :=
  if x.kind = 1 then [(⟨#[114, 101, 110, 97, 109, 101]⟩ : ByteArray), placeT x.at_, x.name]
  else if x.kind = 2 then (⟨#[97, 100, 100]⟩ : ByteArray) :: fieldW x.field
  else if x.kind = 3 then (⟨#[114, 101, 109, 111, 118, 101]⟩ : ByteArray) :: fieldW x.field
  else if x.kind = 4 then [(⟨#[104, 111, 105, 115, 116]⟩ : ByteArray), placeT x.at_]
  else if x.kind = 5 then [(⟨#[112, 108, 117, 110, 103, 101]⟩ : ByteArray), placeT x.at_, x.name]
  else if x.kind = 6 then [(⟨#[115, 112, 108, 105, 116]⟩ : ByteArray), placeT x.at_, x.name, x.other, printB x.factor]
  else if x.kind = 9 then [(⟨#[109, 101, 114, 103, 101]⟩ : ByteArray), placeT x.at_, x.name, x.other, printB x.factor]
  else if x.kind = 7 then [(⟨#[119, 114, 97, 112]⟩ : ByteArray), placeT x.at_, quoteB x.other]
  else if x.kind = 10 then [(⟨#[117, 110, 119, 114, 97, 112]⟩ : ByteArray), placeT x.at_, quoteB x.other]
  else [(⟨#[99, 111, 110, 118, 101, 114, 116]⟩ : ByteArray), placeT x.at_, x.name, x.other, pairsT x.forth, pairsT x.back]
def edgeW (e : EdgeD) : List ByteArray := tagT e.id :: tagT e.parent :: lensW e.lens
def lineT (w : List ByteArray) : ByteArray := joinW 32 w
def textF (f : FieldD) : ByteArray := lineT (fieldW f)
def textL (x : LensD) : ByteArray := lineT (lensW x)
def textE (e : EdgeD) : ByteArray := lineT (edgeW e)
-- what is told is split as it was
def whole (w : ByteArray) : Prop := ((32 : UInt8) ∉ w.data.toList ∧ (34 : UInt8) ∉ w.data.toList) ∨ ∃ t : List UInt8, w.data.toList = quoteL t
theorem quotedAt_not {l : List UInt8} {k : Nat} (h : ∀ c, l[k]? = some c → c.toNat ≠ 34) : quotedAt l k = none := by
  unfold quotedAt
  split
  · rename_i hk
    split
    · rename_i h34
      exact absurd h34 (h _ (List.getElem?_eq_getElem hk))
    · rfl
  · rfl
theorem word_end {l r : List UInt8} {w : ByteArray} {k : Nat} (hw : whole w) (hd : l.drop k = w.data.toList ++ r) (hr : r = [] ∨ r.head? = some 32) (hk : k ≤ l.length) : wordEndOf l k = k + w.size := by
  have hlen := congrArg List.length hd
  rw [List.length_drop, List.length_append] at hlen
  have hws : w.data.toList.length = w.size := rfl
  have hbl : (32 : UInt8) ∉ w.data.toList → blankAt l k = k + w.size := fun h => by
    unfold blankAt
    rw [hd]
    have : (w.data.toList ++ r).takeWhile (fun b => decide (b.toNat ≠ 32)) = w.data.toList := by
      rw [List.takeWhile_append_of_pos (by
        intro a ha
        have : a ≠ 32 := fun e => h (by rw [← e]; exact ha)
        simp only [decide_eq_true_eq]
        intro e
        exact this (by rw [← UInt8.toNat_inj]; exact e))]
      rcases hr with rfl | hr
      · simp
      · cases r with
        | nil => simp
        | cons c r =>
          simp only [List.head?_cons, Option.some.injEq] at hr
          subst hr
          simp
    rw [this, hws]
  rcases hw with ⟨h1, h2⟩ | ⟨t, ht⟩
  · unfold wordEndOf
    by_cases hz : ∃ c, l[k]? = some c ∧ c.toNat = 34
    · obtain ⟨c, hc, h34⟩ := hz
      have hc0 : (l.drop k)[0]? = some c := by rw [List.getElem?_drop]; exact hc
      rw [hd] at hc0
      have hc34 : c = 34 := by rw [← UInt8.toNat_inj]; exact h34
      cases hl : w.data.toList with
      | nil =>
        rw [hl, List.nil_append] at hc0
        rcases hr with rfl | hr
        · cases hc0
        · cases r with
          | nil => cases hc0
          | cons d r => simp at hr hc0; rw [hc0, hc34] at hr; exact absurd hr (by decide)
      | cons d m =>
        rw [hl] at hc0 h2
        simp at hc0
        exact absurd (by rw [hc0, hc34]; exact List.mem_cons_self ..) h2
    · rw [quotedAt_not (fun c hc h34 => hz ⟨c, hc, h34⟩)]
      exact hbl h1
  · have hq := quotedAt_quote (l := l) (r := r) t k (by rw [← ht]; exact hd)
    unfold wordEndOf
    rw [hq]
    simp only
    rw [← ht, hws, if_pos]
    rcases hr with rfl | hr
    · left; rw [List.length_nil] at hlen; omega
    · right
      have : (l.drop k)[w.size]? = some 32 := by rw [hd, List.getElem?_append_right (by omega), hws, Nat.sub_self, ← List.head?_eq_getElem?]; exact hr
      rw [List.getElem?_drop] at this; exact this
theorem split_from (s : ByteArray) : ∀ (ws : List ByteArray) (k : Nat), ws ≠ [] → (∀ w ∈ ws, whole w) → k ≤ s.size → s.data.toList.drop k = joinC 32 (ws.map (·.data.toList)) → splitB s k = ws
  | [], _, h, _, _, _ => absurd rfl h
  | [w], k, _, h, hk, hd => by
    have hd' : s.data.toList.drop k = w.data.toList ++ [] := by rw [List.append_nil]; exact hd
    have he := word_end (h w (List.mem_cons_self ..)) hd' (.inl rfl) hk
    have hlen := congrArg List.length hd'
    rw [List.length_drop, List.append_nil, ba_len, ba_len] at hlen
    rw [splitB_last (by rw [he]; omega), he]
    congr 1
    apply ba_ext
    rw [ext_data, List.take_of_length_le (by rw [ba_len]; omega)]
    exact hd
  | w :: v :: r, k, _, h, hk, hd => by
    have hd' : s.data.toList.drop k = w.data.toList ++ 32 :: joinC 32 ((v :: r).map (·.data.toList)) := hd
    have he := word_end (h w (List.mem_cons_self ..)) hd' (.inr rfl) hk
    have hlen := congrArg List.length hd'
    rw [List.length_drop, List.length_append, List.length_cons, ba_len, ba_len] at hlen
    rw [splitB_more hk (by rw [he]; omega), he]
    congr 1
    · apply ba_ext
      rw [ext_data, List.drop_take, hd', Nat.add_sub_cancel_left]
      exact List.take_left
    · refine split_from s (v :: r) _ (by simp) (fun u hu => h u (List.mem_cons_of_mem _ hu)) (by omega) ?_
      rw [Nat.add_assoc, ← List.drop_drop, hd', show w.data.toList ++ 32 :: joinC 32 ((v :: r).map (·.data.toList)) = (w.data.toList ++ [32]) ++ joinC 32 ((v :: r).map (·.data.toList)) by simp]
      exact List.drop_left' (by rw [List.length_append]; rfl)
theorem split_line {ws : List ByteArray} (hne : ws ≠ []) (h : ∀ w ∈ ws, whole w) : splitB (lineT ws) 0 = ws :=
  split_from _ ws 0 hne h (Nat.zero_le _) (by rw [List.drop_zero]; exact mkB_data _)
theorem join_words (s : ByteArray) : lineT (splitB s 0) = s := by
  have h := join_split s s.size 0 (by omega) (Nat.zero_le _)
  have e : ∀ l : List ByteArray, joinL l = joinC 32 (l.map (·.data.toList)) := by
    intro l
    induction l with
    | nil => rfl
    | cons a l ih =>
      cases l with
      | nil => rfl
      | cons b r => show a.data.toList ++ 32 :: joinL (b :: r) = _; rw [ih]; rfl
  rw [e, List.drop_zero] at h
  exact ba_ext ((mkB_data _).trans h)
theorem whole_bytes {w : ByteArray} (h : ∀ c ∈ w.data.toList, 34 < c.toNat) : whole w :=
  .inl ⟨fun k => absurd (h _ k) (by decide), fun k => absurd (h _ k) (by decide)⟩
theorem whole_name {w : ByteArray} (h : nameB w = true) : whole w := whole_bytes fun c hc => by have := nameB_bytes h c hc; omega
theorem whole_place {r : RefD} (h : placeB r = true) : whole (placeT r) := whole_bytes fun c hc => by have := place_bytes h c hc; omega
theorem print_bytes (n : Int) : ∀ c ∈ print n, c.toNat = 45 ∨ (48 ≤ c.toNat ∧ c.toNat ≤ 57) := by
  have hd := digs_digits n.natAbs
  intro c hc
  unfold print at hc
  split at hc
  · rcases List.mem_cons.1 hc with rfl | hc
    · exact .inl rfl
    · exact .inr (hd c hc)
  · exact .inr (hd c hc)
theorem whole_num (n : Int) : whole (printB n) := whole_bytes fun c hc => by rw [printB_data] at hc; have := print_bytes n c hc; omega
theorem whole_tag (t : TagD) : whole (tagT t) := whole_bytes fun c hc => by
  unfold tagT at hc
  rw [mkB_data] at hc
  rcases List.mem_append.1 hc with k | k
  · have := print_bytes _ c k; omega
  · rcases List.mem_cons.1 k with rfl | k
    · decide
    · have := print_bytes _ c k; omega
theorem whole_quote (s : ByteArray) : whole (quoteB s) := .inr ⟨s.data.toList, mkB_data _⟩
theorem joinC_mem {c x : UInt8} : ∀ {l : List (List UInt8)}, x ∈ joinC c l → x = c ∨ ∃ w ∈ l, x ∈ w
  | [], h => by cases h
  | [w], h => .inr ⟨w, List.mem_cons_self .., h⟩
  | w :: v :: r, h => by
    rcases List.mem_append.1 h with h | h
    · exact .inr ⟨w, List.mem_cons_self .., h⟩
    · rcases List.mem_cons.1 h with h | h
      · exact .inl h
      · rcases joinC_mem h with h | ⟨u, hu, hx⟩
        · exact .inl h
        · exact .inr ⟨u, List.mem_cons_of_mem _ hu, hx⟩
theorem whole_join {c : UInt8} {l : List ByteArray} (hc : 34 < c.toNat) (h : ∀ w ∈ l, ∀ x ∈ w.data.toList, 34 < x.toNat) : whole (joinW c l) := whole_bytes fun x hx => by
  rw [joinW_data] at hx
  rcases joinC_mem hx with rfl | ⟨w, hw, hx⟩
  · exact hc
  · obtain ⟨a, ha, rfl⟩ := List.mem_map.1 hw; exact h a ha x hx
theorem casesB_name {l : List ByteArray} (h : casesB l = true) : l ≠ [] ∧ ∀ w ∈ l, nameB w = true := by
  unfold casesB okC at h
  simp only [Bool.and_eq_true, decide_eq_true_eq, List.all_eq_true] at h
  refine ⟨fun e => by rw [e] at h; simp at h, fun w hw => ?_⟩
  obtain ⟨i, hi, rfl⟩ := List.getElem_of_mem hw
  have := h.2 i (List.mem_range.2 hi)
  rw [List.getElem?_eq_getElem hi] at this
  simp only [Bool.and_eq_true] at this
  exact this.1
theorem rightT_names {t o : List (ByteArray × ByteArray)} (h : rightT t o = true) (k : rightT o t = true) : t ≠ [] ∧ ∀ p ∈ t, nameB p.1 = true ∧ nameB p.2 = true := by
  have n1 : ∀ {t o : List (ByteArray × ByteArray)}, rightT t o = true → ∀ s ∈ froms t, nameB s = true := fun h s hs => rightT_name h (by rw [caseT_some, decide_eq_true_eq]; exact hs)
  have n2 := rightT_size h
  refine ⟨fun e => ?_, fun p hp => ⟨n1 h p.1 (List.mem_map.2 ⟨p, hp, rfl⟩), n1 k p.2 (n2.2 p hp).2⟩⟩
  unfold rightT at h
  rw [e] at h
  simp at h
inductive RF : FieldD → Prop
  | counter (r : RefD) (n : Int) (hp : placeB r = true) (hn : inI64 n) : RF ⟨r, 1, noB, [], n⟩
  | register (r : RefD) (d : ByteArray) (hp : placeB r = true) (hd : d.size ≤ 40) : RF ⟨r, 2, d, [], 0⟩
  | enum (r : RefD) (d : ByteArray) (l : List ByteArray) (hp : placeB r = true) (hl : casesB l = true) (hd : d ∈ l) : RF ⟨r, 3, d, l, 0⟩
  | list (r : RefD) (hp : placeB r = true) : RF ⟨r, 4, noB, [], 0⟩
theorem rf_of {f : FieldD} (h : rightF f = true) : RF f := by
  obtain ⟨r, k, d, cs, wo⟩ := f
  unfold rightF at h
  simp only [Bool.and_eq_true] at h
  obtain ⟨hp, h⟩ := h
  by_cases h1 : k = 1
  · rw [if_pos h1] at h
    simp only [Bool.and_eq_true, decide_eq_true_eq] at h
    rw [h1, h.1.1.1, List.length_eq_zero_iff.1 h.1.1.2]
    exact .counter r wo hp ⟨by omega, by omega⟩
  · rw [if_neg h1] at h
    by_cases h2 : k = 2
    · rw [if_pos h2] at h
      simp only [Bool.and_eq_true, decide_eq_true_eq] at h
      rw [h2, h.2, List.length_eq_zero_iff.1 h.1.2]
      exact .register r d hp h.1.1
    · rw [if_neg h2] at h
      by_cases h3 : k = 3
      · rw [if_pos h3] at h
        simp only [Bool.and_eq_true, decide_eq_true_eq] at h
        rw [h3, h.2]
        exact .enum r d cs hp h.1.1 h.1.2
      · rw [if_neg h3] at h
        by_cases h4 : k = 4
        · rw [if_pos h4] at h
          simp only [Bool.and_eq_true, decide_eq_true_eq] at h
          rw [h4, h.1.1, h.2, List.length_eq_zero_iff.1 h.1.2]
          exact .list r hp
        · rw [if_neg h4] at h; cases h
inductive RL : LensD → Prop
  | add (f : FieldD) (h : rightF f = true) : RL ⟨2, noRef, noB, noB, 0, f, [], []⟩
  | remove (f : FieldD) (h : rightF f = true) : RL ⟨3, noRef, noB, noB, 0, f, [], []⟩
  | convert (r : RefD) (n o : ByteArray) (a b : List (ByteArray × ByteArray)) (hp : placeB r = true) (hn : nameB n = true) (ho : nameB o = true) (h1 : rightT a b = true) (h2 : rightT b a = true) : RL ⟨8, r, n, o, 0, noField, a, b⟩
  | split (r : RefD) (n o : ByteArray) (k : Int) (hp : placeB r = true) (hn : nameB n = true) (ho : nameB o = true) (hk : inI64 k) : RL ⟨6, r, n, o, k, noField, [], []⟩
  | merge (r : RefD) (n o : ByteArray) (k : Int) (hp : placeB r = true) (hn : nameB n = true) (ho : nameB o = true) (hk : inI64 k) : RL ⟨9, r, n, o, k, noField, [], []⟩
  | wrap (r : RefD) (o : ByteArray) (hp : placeB r = true) (ho : o.size ≤ 40) : RL ⟨7, r, noB, o, 0, noField, [], []⟩
  | unwrap (r : RefD) (o : ByteArray) (hp : placeB r = true) (ho : o.size ≤ 40) : RL ⟨10, r, noB, o, 0, noField, [], []⟩
  | rename (r : RefD) (n : ByteArray) (hp : placeB r = true) (hn : nameB n = true) : RL ⟨1, r, n, noB, 0, noField, [], []⟩
  | hoist (r : RefD) (hp : placeB r = true) : RL ⟨4, r, noB, noB, 0, noField, [], []⟩
  | plunge (r : RefD) (n : ByteArray) (hp : placeB r = true) (hn : nameB n = true) : RL ⟨5, r, n, noB, 0, noField, [], []⟩
theorem rl_of {x : LensD} (h : rightL x = true) : RL x := by
  obtain ⟨k, r, n, o, fa, fd, a, b⟩ := x
  unfold rightL at h
  by_cases h1 : k = 2 ∨ k = 3
  · rw [if_pos h1] at h
    simp only [Bool.and_eq_true, decide_eq_true_eq] at h
    obtain ⟨⟨⟨⟨⟨⟨e1, e2⟩, e3⟩, e4⟩, e5⟩, e6⟩, e7⟩ := h
    rw [e1, e2, e3, e4, List.length_eq_zero_iff.1 e5, List.length_eq_zero_iff.1 e6]
    rcases h1 with h1 | h1
    · rw [h1]; exact .add fd e7
    · rw [h1]; exact .remove fd e7
  · rw [if_neg h1] at h
    rw [Bool.and_eq_true, Bool.and_eq_true, decide_eq_true_eq] at h
    obtain ⟨⟨hp, hf⟩, h⟩ := h
    simp only at hp hf
    rw [hf]
    by_cases h2 : k = 8
    · rw [if_pos h2] at h
      simp only [Bool.and_eq_true, decide_eq_true_eq] at h
      obtain ⟨⟨⟨⟨e1, e2⟩, e3⟩, e4⟩, e5⟩ := h
      rw [h2, e1]
      exact .convert r n o a b hp (rightT_name e2 (by rw [e4])) (rightT_name e3 (by rw [e5])) e2 e3
    · rw [if_neg h2] at h
      rw [Bool.and_eq_true, Bool.and_eq_true, decide_eq_true_eq, decide_eq_true_eq] at h
      obtain ⟨⟨e1, e2⟩, h⟩ := h
      rw [List.length_eq_zero_iff.1 (show a.length = 0 from e1), List.length_eq_zero_iff.1 (show b.length = 0 from e2)]
      by_cases h3 : k = 6 ∨ k = 9
      · rw [if_pos h3] at h
        simp only [Bool.and_eq_true, decide_eq_true_eq] at h
        obtain ⟨⟨⟨⟨c1, c2⟩, c3⟩, c4⟩, c5⟩ := h
        rcases h3 with h3 | h3
        · rw [h3]; exact .split r n o fa hp c1 c2 ⟨by omega, by omega⟩
        · rw [h3]; exact .merge r n o fa hp c1 c2 ⟨by omega, by omega⟩
      · rw [if_neg h3] at h
        rw [Bool.and_eq_true, decide_eq_true_eq] at h
        obtain ⟨e3, h⟩ := h
        rw [show fa = 0 from e3]
        by_cases h4 : k = 7 ∨ k = 10
        · rw [if_pos h4] at h
          simp only [Bool.and_eq_true, decide_eq_true_eq] at h
          rw [h.1]
          rcases h4 with h4 | h4
          · rw [h4]; exact .wrap r o hp h.2
          · rw [h4]; exact .unwrap r o hp h.2
        · rw [if_neg h4] at h
          rw [Bool.and_eq_true, decide_eq_true_eq] at h
          obtain ⟨e4, h⟩ := h
          rw [show o = noB from e4]
          by_cases h5 : k = 1
          · rw [if_pos h5] at h; rw [h5]; exact .rename r n hp h
          · rw [if_neg h5] at h
            by_cases h6 : k = 4
            · rw [if_pos h6] at h
              simp only [Bool.and_eq_true, decide_eq_true_eq] at h
              rw [h6, h.1]; exact .hoist r hp
            · rw [if_neg h6] at h
              by_cases h7 : k = 5
              · rw [if_pos h7] at h
                simp only [Bool.and_eq_true, decide_eq_true_eq] at h
                rw [h7]; exact .plunge r n hp h.2
              · rw [if_neg h7] at h; cases h
theorem fieldW_ne (f : FieldD) : fieldW f ≠ [] := by unfold fieldW; split; simp; split; simp; split <;> simp
theorem whole_cases {l : List ByteArray} (h : casesB l = true) : whole (joinW 44 l) := whole_join (by decide) fun w hw x hx => by have := nameB_bytes ((casesB_name h).2 w hw) x hx; omega
theorem fieldW_whole {f : FieldD} (h : rightF f = true) : ∀ w ∈ fieldW f, whole w := by
  cases rf_of h with
  | counter r n hp hn =>
    show ∀ w ∈ [((⟨#[99, 111, 117, 110, 116, 101, 114]⟩ : ByteArray)), placeT r, printB n], whole w
    simp only [List.forall_mem_cons, List.not_mem_nil, false_implies, implies_true, and_true]
    exact ⟨whole_bytes (by decide), whole_place hp, whole_num _⟩
  | register r d hp hd =>
    show ∀ w ∈ [((⟨#[114, 101, 103, 105, 115, 116, 101, 114]⟩ : ByteArray)), placeT r, quoteB d], whole w
    simp only [List.forall_mem_cons, List.not_mem_nil, false_implies, implies_true, and_true]
    exact ⟨whole_bytes (by decide), whole_place hp, whole_quote _⟩
  | enum r d l hp hl hd =>
    show ∀ w ∈ [((⟨#[101, 110, 117, 109]⟩ : ByteArray)), placeT r, d, joinW 44 l], whole w
    simp only [List.forall_mem_cons, List.not_mem_nil, false_implies, implies_true, and_true]
    exact ⟨whole_bytes (by decide), whole_place hp, whole_name ((casesB_name hl).2 _ hd), whole_cases hl⟩
  | list r hp =>
    show ∀ w ∈ [((⟨#[108, 105, 115, 116]⟩ : ByteArray)), placeT r], whole w
    simp only [List.forall_mem_cons, List.not_mem_nil, false_implies, implies_true, and_true]
    exact ⟨whole_bytes (by decide), whole_place hp⟩
theorem whole_pairs {a b : List (ByteArray × ByteArray)} (h : rightT a b = true) (k : rightT b a = true) : whole (pairsT a) := whole_join (by decide) fun w hw x hx => by
  obtain ⟨p, hp, rfl⟩ := List.mem_map.1 hw
  obtain ⟨n1, n2⟩ := (rightT_names h k).2 p hp
  unfold pairT at hx
  rw [mkB_data] at hx
  rcases List.mem_append.1 hx with q | q
  · have := nameB_bytes n1 x q; omega
  · rcases List.mem_cons.1 q with rfl | q
    · decide
    · have := nameB_bytes n2 x q; omega
theorem lensW_ne {x : LensD} (h : rightL x = true) : lensW x ≠ [] := by
  cases rl_of h <;> (intro e; cases e)
theorem lensW_whole {x : LensD} (h : rightL x = true) : ∀ w ∈ lensW x, whole w := by
  cases rl_of h with
  | add f hf =>
    show ∀ w ∈ ((⟨#[97, 100, 100]⟩ : ByteArray)) :: fieldW f, whole w
    simp only [List.forall_mem_cons]
    exact ⟨whole_bytes (by decide), fieldW_whole hf⟩
  | remove f hf =>
    show ∀ w ∈ ((⟨#[114, 101, 109, 111, 118, 101]⟩ : ByteArray)) :: fieldW f, whole w
    simp only [List.forall_mem_cons]
    exact ⟨whole_bytes (by decide), fieldW_whole hf⟩
  | convert r n o a b hp hn ho h1 h2 =>
    show ∀ w ∈ [((⟨#[99, 111, 110, 118, 101, 114, 116]⟩ : ByteArray)), placeT r, n, o, pairsT a, pairsT b], whole w
    simp only [List.forall_mem_cons, List.not_mem_nil, false_implies, implies_true, and_true]
    exact ⟨whole_bytes (by decide), whole_place hp, whole_name hn, whole_name ho, whole_pairs h1 h2, whole_pairs h2 h1⟩
  | split r n o k hp hn ho hk =>
    show ∀ w ∈ [((⟨#[115, 112, 108, 105, 116]⟩ : ByteArray)), placeT r, n, o, printB k], whole w
    simp only [List.forall_mem_cons, List.not_mem_nil, false_implies, implies_true, and_true]
    exact ⟨whole_bytes (by decide), whole_place hp, whole_name hn, whole_name ho, whole_num _⟩
  | merge r n o k hp hn ho hk =>
    show ∀ w ∈ [((⟨#[109, 101, 114, 103, 101]⟩ : ByteArray)), placeT r, n, o, printB k], whole w
    simp only [List.forall_mem_cons, List.not_mem_nil, false_implies, implies_true, and_true]
    exact ⟨whole_bytes (by decide), whole_place hp, whole_name hn, whole_name ho, whole_num _⟩
  | wrap r o hp ho =>
    show ∀ w ∈ [((⟨#[119, 114, 97, 112]⟩ : ByteArray)), placeT r, quoteB o], whole w
    simp only [List.forall_mem_cons, List.not_mem_nil, false_implies, implies_true, and_true]
    exact ⟨whole_bytes (by decide), whole_place hp, whole_quote _⟩
  | unwrap r o hp ho =>
    show ∀ w ∈ [((⟨#[117, 110, 119, 114, 97, 112]⟩ : ByteArray)), placeT r, quoteB o], whole w
    simp only [List.forall_mem_cons, List.not_mem_nil, false_implies, implies_true, and_true]
    exact ⟨whole_bytes (by decide), whole_place hp, whole_quote _⟩
  | rename r n hp hn =>
    show ∀ w ∈ [((⟨#[114, 101, 110, 97, 109, 101]⟩ : ByteArray)), placeT r, n], whole w
    simp only [List.forall_mem_cons, List.not_mem_nil, false_implies, implies_true, and_true]
    exact ⟨whole_bytes (by decide), whole_place hp, whole_name hn⟩
  | hoist r hp =>
    show ∀ w ∈ [((⟨#[104, 111, 105, 115, 116]⟩ : ByteArray)), placeT r], whole w
    simp only [List.forall_mem_cons, List.not_mem_nil, false_implies, implies_true, and_true]
    exact ⟨whole_bytes (by decide), whole_place hp⟩
  | plunge r n hp hn =>
    show ∀ w ∈ [((⟨#[112, 108, 117, 110, 103, 101]⟩ : ByteArray)), placeT r, n], whole w
    simp only [List.forall_mem_cons, List.not_mem_nil, false_implies, implies_true, and_true]
    exact ⟨whole_bytes (by decide), whole_place hp, whole_name hn⟩
theorem edgeW_whole {e : EdgeD} (h : edgeB e = true) : ∀ w ∈ edgeW e, whole w := by
  unfold edgeB at h
  simp only [Bool.and_eq_true] at h
  show ∀ w ∈ tagT e.id :: tagT e.parent :: lensW e.lens, whole w
  simp only [List.forall_mem_cons]
  exact ⟨whole_tag _, whole_tag _, lensW_whole h.2.2⟩
-- what the words tell
abbrev wd (w : List ByteArray) (i : Nat) : ByteArray := w.getD i noB
abbrev numW (s : ByteArray) : Int × Int := readOf s.data.toList
noncomputable def parseF (w : List ByteArray) : FieldD × Bool :=
  if w.length < 2 then (noField, false) else match placeOf (wd w 1) with
  | none => (noField, false)
  | some r =>
    if wd w 0 = (⟨#[99, 111, 117, 110, 116, 101, 114]⟩ : ByteArray) ∧ w.length = 3 then (⟨r, 1, noB, [], (numW (wd w 2)).1⟩, decide ((numW (wd w 2)).2 = 0))
    else if wd w 0 = (⟨#[114, 101, 103, 105, 115, 116, 101, 114]⟩ : ByteArray) ∧ w.length = 3 then (⟨r, 2, (unquoteOf (wd w 2)).1, [], 0⟩, decide ((unquoteOf (wd w 2)).2 = 0))
    else if wd w 0 = (⟨#[101, 110, 117, 109]⟩ : ByteArray) ∧ w.length = 4 then (⟨r, 3, wd w 2, splitW 44 (wd w 3), 0⟩, true)
    else if wd w 0 = (⟨#[108, 105, 115, 116]⟩ : ByteArray) ∧ w.length = 2 then (⟨r, 4, noB, [], 0⟩, true)
    else (⟨r, 0, noB, [], 0⟩, false)
def pairOf (p : ByteArray) : ByteArray × ByteArray := (mkB (cutC 62 p.data.toList).1, mkB (cutC 62 p.data.toList).2.1)
def parsePs (l : List ByteArray) : List (ByteArray × ByteArray) × Bool := if l.all (fun p => decide ((62 : UInt8) ∈ p.data.toList)) then (l.map pairOf, true) else ([], false)
def kindOf (v : ByteArray) : Int × Int :=
  if v = (⟨#[114, 101, 110, 97, 109, 101]⟩ : ByteArray) then (1, 3) else if v = (⟨#[97, 100, 100]⟩ : ByteArray) then (2, 0) else if v = (⟨#[114, 101, 109, 111, 118, 101]⟩ : ByteArray) then (3, 0) else if v = (⟨#[104, 111, 105, 115, 116]⟩ : ByteArray) then (4, 2) else if v = (⟨#[112, 108, 117, 110, 103, 101]⟩ : ByteArray) then (5, 3) else if v = (⟨#[115, 112, 108, 105, 116]⟩ : ByteArray) then (6, 5)
  else if v = (⟨#[109, 101, 114, 103, 101]⟩ : ByteArray) then (9, 5) else if v = (⟨#[119, 114, 97, 112]⟩ : ByteArray) then (7, 3) else if v = (⟨#[117, 110, 119, 114, 97, 112]⟩ : ByteArray) then (10, 3) else if v = (⟨#[99, 111, 110, 118, 101, 114, 116]⟩ : ByteArray) then (8, 6) else (0, 0)
noncomputable def parseL (w : List ByteArray) : LensD × Bool :=
  if w.length = 0 then (noLens, false)
  else if (kindOf (wd w 0)).1 = 0 then (noLens, false)
  else if (kindOf (wd w 0)).1 = 2 ∨ (kindOf (wd w 0)).1 = 3 then (⟨(kindOf (wd w 0)).1, noRef, noB, noB, 0, (parseF (w.drop 1)).1, [], []⟩, (parseF (w.drop 1)).2)
  else if ¬ (w.length : Int) = (kindOf (wd w 0)).2 then (⟨(kindOf (wd w 0)).1, noRef, noB, noB, 0, noField, [], []⟩, false)
  else match placeOf (wd w 1) with
  | none => (⟨(kindOf (wd w 0)).1, noRef, noB, noB, 0, noField, [], []⟩, false)
  | some r =>
    if (kindOf (wd w 0)).1 = 1 ∨ (kindOf (wd w 0)).1 = 5 then (⟨(kindOf (wd w 0)).1, r, wd w 2, noB, 0, noField, [], []⟩, true)
    else if (kindOf (wd w 0)).1 = 6 ∨ (kindOf (wd w 0)).1 = 9 then (⟨(kindOf (wd w 0)).1, r, wd w 2, wd w 3, (numW (wd w 4)).1, noField, [], []⟩, decide ((numW (wd w 4)).2 = 0))
    else if (kindOf (wd w 0)).1 = 7 ∨ (kindOf (wd w 0)).1 = 10 then (⟨(kindOf (wd w 0)).1, r, noB, (unquoteOf (wd w 2)).1, 0, noField, [], []⟩, decide ((unquoteOf (wd w 2)).2 = 0))
    else if (kindOf (wd w 0)).1 = 8 then (⟨(kindOf (wd w 0)).1, r, wd w 2, wd w 3, 0, noField, (parsePs (splitW 44 (wd w 4))).1, (parsePs (splitW 44 (wd w 5))).1⟩, (parsePs (splitW 44 (wd w 4))).2 && (parsePs (splitW 44 (wd w 5))).2)
    else (⟨(kindOf (wd w 0)).1, r, noB, noB, 0, noField, [], []⟩, true)
noncomputable def parseE (w : List ByteArray) : EdgeD × Bool :=
  if w.length < 2 then (noEdge, false) else match tagOf (wd w 0), tagOf (wd w 1) with
  | some a, some b => (⟨a, b, (parseL (w.drop 2)).1⟩, (parseL (w.drop 2)).2)
  | _, _ => (noEdge, false)
theorem num_print {n : Int} (h : inI64 n) : numW (printB n) = (n, 0) := by
  show readOf (printB n).data.toList = _
  rw [printB_data]; exact print_read (by omega) (by omega)
theorem quote_size (s : ByteArray) : (quoteB s).size = (quoteL s.data.toList).length := by rw [← ba_len]; rw [show (quoteB s).data.toList = _ from mkB_data _]
theorem unquote_quote {s : ByteArray} (h : s.size ≤ 40) : unquoteOf (quoteB s) = (s, 0) := by
  have hd : (quoteB s).data.toList = quoteL s.data.toList := mkB_data _
  have hq := quotedAt_quote (l := (quoteB s).data.toList) (r := []) s.data.toList 0 (by rw [List.drop_zero, hd, List.append_nil])
  have h0 := scanOf_fine (s := quoteB s) (k := 0) (Nat.zero_le _) hq (by rw [ba_len]; omega)
  rw [show ((0 : Nat) : Int) = 0 from rfl] at h0
  unfold unquoteOf
  rw [h0]
  simp only
  rw [if_pos trivial, if_pos (by rw [quote_size]; omega)]
theorem cases_split {l : List ByteArray} (h : casesB l = true) : splitW 44 (joinW 44 l) = l := splitW_joinW (casesB_name h).1 fun w hw => nameB_free ((casesB_name h).2 w hw) (by decide)
theorem pair_cut {p : ByteArray × ByteArray} (h : nameB p.1 = true) : pairOf (pairT p) = p ∧ (62 : UInt8) ∈ (pairT p).data.toList := by
  unfold pairOf pairT
  rw [mkB_data, cutC_hit (nameB_free h (by decide))]
  exact ⟨by rw [mkB_of, mkB_of], by simp⟩
theorem pairs_parse {a b : List (ByteArray × ByteArray)} (h : rightT a b = true) (k : rightT b a = true) : parsePs (splitW 44 (pairsT a)) = (a, true) := by
  obtain ⟨hne, hn⟩ := rightT_names h k
  have hs : splitW 44 (pairsT a) = a.map pairT := splitW_joinW (by simpa using hne) fun w hw => by
    obtain ⟨p, hp, rfl⟩ := List.mem_map.1 hw
    unfold pairT
    rw [mkB_data]
    intro q
    rcases List.mem_append.1 q with q | q
    · exact nameB_free (hn p hp).1 (by decide) q
    · rcases List.mem_cons.1 q with q | q
      · exact absurd q (by decide)
      · exact nameB_free (hn p hp).2 (by decide) q
  rw [hs]
  unfold parsePs
  rw [if_pos]
  · congr 1
    rw [List.map_map]
    conv => rhs; rw [← List.map_id a]
    exact List.map_congr_left fun p hp => (pair_cut (hn p hp).1).1
  · rw [List.all_eq_true]
    intro w hw
    obtain ⟨p, hp, rfl⟩ := List.mem_map.1 hw
    exact decide_eq_true (pair_cut (hn p hp).1).2
theorem parse_field {f : FieldD} (h : rightF f = true) : parseF (fieldW f) = (f, true) := by
  cases rf_of h with
  | counter r n hp hn =>
    rw [show fieldW ⟨r, 1, noB, [], n⟩ = [((⟨#[99, 111, 117, 110, 116, 101, 114]⟩ : ByteArray)), placeT r, printB n] from rfl]
    unfold parseF
    rw [if_neg (by simp), show wd [((⟨#[99, 111, 117, 110, 116, 101, 114]⟩ : ByteArray)), placeT r, printB n] 1 = placeT r from rfl, placeOf_some hp rfl]
    show (if _ then _ else _) = _
    rw [if_pos ⟨rfl, rfl⟩, show wd [((⟨#[99, 111, 117, 110, 116, 101, 114]⟩ : ByteArray)), placeT r, printB n] 2 = printB n from rfl, num_print hn]; rfl
  | register r d hp hd =>
    rw [show fieldW ⟨r, 2, d, [], 0⟩ = [((⟨#[114, 101, 103, 105, 115, 116, 101, 114]⟩ : ByteArray)), placeT r, quoteB d] from rfl]
    unfold parseF
    rw [if_neg (by simp), show wd [((⟨#[114, 101, 103, 105, 115, 116, 101, 114]⟩ : ByteArray)), placeT r, quoteB d] 1 = placeT r from rfl, placeOf_some hp rfl]
    show (if _ then _ else _) = _
    rw [if_neg (fun k => absurd (show ((⟨#[114, 101, 103, 105, 115, 116, 101, 114]⟩ : ByteArray)) = ((⟨#[99, 111, 117, 110, 116, 101, 114]⟩ : ByteArray)) from k.1) (by decide +kernel)), if_pos ⟨rfl, rfl⟩, show wd [((⟨#[114, 101, 103, 105, 115, 116, 101, 114]⟩ : ByteArray)), placeT r, quoteB d] 2 = quoteB d from rfl, unquote_quote hd]; rfl
  | enum r d l hp hl hd =>
    rw [show fieldW ⟨r, 3, d, l, 0⟩ = [((⟨#[101, 110, 117, 109]⟩ : ByteArray)), placeT r, d, joinW 44 l] from rfl]
    unfold parseF
    rw [if_neg (by simp), show wd [((⟨#[101, 110, 117, 109]⟩ : ByteArray)), placeT r, d, joinW 44 l] 1 = placeT r from rfl, placeOf_some hp rfl]
    show (if _ then _ else _) = _
    rw [if_neg (fun k => by cases k.2), if_neg (fun k => by cases k.2), if_pos ⟨rfl, rfl⟩, show wd [((⟨#[101, 110, 117, 109]⟩ : ByteArray)), placeT r, d, joinW 44 l] 3 = joinW 44 l from rfl, cases_split hl]; rfl
  | list r hp =>
    rw [show fieldW ⟨r, 4, noB, [], 0⟩ = [((⟨#[108, 105, 115, 116]⟩ : ByteArray)), placeT r] from rfl]
    unfold parseF
    rw [if_neg (by simp), show wd [((⟨#[108, 105, 115, 116]⟩ : ByteArray)), placeT r] 1 = placeT r from rfl, placeOf_some hp rfl]
    show (if _ then _ else _) = _
    rw [if_neg (fun k => by cases k.2), if_neg (fun k => by cases k.2), if_neg (fun k => by cases k.2), if_pos ⟨rfl, rfl⟩]
theorem parse_lens {x : LensD} (h : rightL x = true) : parseL (lensW x) = (x, true) := by
  cases rl_of h with
  | add f hf =>
    rw [show lensW ⟨2, noRef, noB, noB, 0, f, [], []⟩ = ((⟨#[97, 100, 100]⟩ : ByteArray)) :: fieldW f from rfl]
    unfold parseL
    rw [if_neg (by simp), show wd (((⟨#[97, 100, 100]⟩ : ByteArray)) :: fieldW f) 0 = ((⟨#[97, 100, 100]⟩ : ByteArray)) from rfl, show kindOf ((⟨#[97, 100, 100]⟩ : ByteArray)) = (2, 0) by decide +kernel, show (((⟨#[97, 100, 100]⟩ : ByteArray)) :: fieldW f).drop 1 = fieldW f from rfl, parse_field hf]; rfl
  | remove f hf =>
    rw [show lensW ⟨3, noRef, noB, noB, 0, f, [], []⟩ = ((⟨#[114, 101, 109, 111, 118, 101]⟩ : ByteArray)) :: fieldW f from rfl]
    unfold parseL
    rw [if_neg (by simp), show wd (((⟨#[114, 101, 109, 111, 118, 101]⟩ : ByteArray)) :: fieldW f) 0 = ((⟨#[114, 101, 109, 111, 118, 101]⟩ : ByteArray)) from rfl, show kindOf ((⟨#[114, 101, 109, 111, 118, 101]⟩ : ByteArray)) = (3, 0) by decide +kernel, show (((⟨#[114, 101, 109, 111, 118, 101]⟩ : ByteArray)) :: fieldW f).drop 1 = fieldW f from rfl, parse_field hf]; rfl
  | convert r n o a b hp hn ho h1 h2 =>
    rw [show lensW ⟨8, r, n, o, 0, noField, a, b⟩ = [((⟨#[99, 111, 110, 118, 101, 114, 116]⟩ : ByteArray)), placeT r, n, o, pairsT a, pairsT b] from rfl]
    unfold parseL
    rw [if_neg (by simp), show wd [((⟨#[99, 111, 110, 118, 101, 114, 116]⟩ : ByteArray)), placeT r, n, o, pairsT a, pairsT b] 0 = ((⟨#[99, 111, 110, 118, 101, 114, 116]⟩ : ByteArray)) from rfl, show kindOf ((⟨#[99, 111, 110, 118, 101, 114, 116]⟩ : ByteArray)) = (8, 6) by decide +kernel, show wd [((⟨#[99, 111, 110, 118, 101, 114, 116]⟩ : ByteArray)), placeT r, n, o, pairsT a, pairsT b] 1 = placeT r from rfl, placeOf_some hp rfl, show wd [((⟨#[99, 111, 110, 118, 101, 114, 116]⟩ : ByteArray)), placeT r, n, o, pairsT a, pairsT b] 4 = pairsT a from rfl, show wd [((⟨#[99, 111, 110, 118, 101, 114, 116]⟩ : ByteArray)), placeT r, n, o, pairsT a, pairsT b] 5 = pairsT b from rfl, pairs_parse h1 h2, pairs_parse h2 h1]; rfl
  | split r n o k hp hn ho hk =>
    rw [show lensW ⟨6, r, n, o, k, noField, [], []⟩ = [((⟨#[115, 112, 108, 105, 116]⟩ : ByteArray)), placeT r, n, o, printB k] from rfl]
    unfold parseL
    rw [if_neg (by simp), show wd [((⟨#[115, 112, 108, 105, 116]⟩ : ByteArray)), placeT r, n, o, printB k] 0 = ((⟨#[115, 112, 108, 105, 116]⟩ : ByteArray)) from rfl, show kindOf ((⟨#[115, 112, 108, 105, 116]⟩ : ByteArray)) = (6, 5) by decide +kernel, show wd [((⟨#[115, 112, 108, 105, 116]⟩ : ByteArray)), placeT r, n, o, printB k] 1 = placeT r from rfl, placeOf_some hp rfl, show wd [((⟨#[115, 112, 108, 105, 116]⟩ : ByteArray)), placeT r, n, o, printB k] 4 = printB k from rfl, num_print hk]; rfl
  | merge r n o k hp hn ho hk =>
    rw [show lensW ⟨9, r, n, o, k, noField, [], []⟩ = [((⟨#[109, 101, 114, 103, 101]⟩ : ByteArray)), placeT r, n, o, printB k] from rfl]
    unfold parseL
    rw [if_neg (by simp), show wd [((⟨#[109, 101, 114, 103, 101]⟩ : ByteArray)), placeT r, n, o, printB k] 0 = ((⟨#[109, 101, 114, 103, 101]⟩ : ByteArray)) from rfl, show kindOf ((⟨#[109, 101, 114, 103, 101]⟩ : ByteArray)) = (9, 5) by decide +kernel, show wd [((⟨#[109, 101, 114, 103, 101]⟩ : ByteArray)), placeT r, n, o, printB k] 1 = placeT r from rfl, placeOf_some hp rfl, show wd [((⟨#[109, 101, 114, 103, 101]⟩ : ByteArray)), placeT r, n, o, printB k] 4 = printB k from rfl, num_print hk]; rfl
  | wrap r o hp ho =>
    rw [show lensW ⟨7, r, noB, o, 0, noField, [], []⟩ = [((⟨#[119, 114, 97, 112]⟩ : ByteArray)), placeT r, quoteB o] from rfl]
    unfold parseL
    rw [if_neg (by simp), show wd [((⟨#[119, 114, 97, 112]⟩ : ByteArray)), placeT r, quoteB o] 0 = ((⟨#[119, 114, 97, 112]⟩ : ByteArray)) from rfl, show kindOf ((⟨#[119, 114, 97, 112]⟩ : ByteArray)) = (7, 3) by decide +kernel, show wd [((⟨#[119, 114, 97, 112]⟩ : ByteArray)), placeT r, quoteB o] 1 = placeT r from rfl, placeOf_some hp rfl, show wd [((⟨#[119, 114, 97, 112]⟩ : ByteArray)), placeT r, quoteB o] 2 = quoteB o from rfl, unquote_quote ho]; rfl
  | unwrap r o hp ho =>
    rw [show lensW ⟨10, r, noB, o, 0, noField, [], []⟩ = [((⟨#[117, 110, 119, 114, 97, 112]⟩ : ByteArray)), placeT r, quoteB o] from rfl]
    unfold parseL
    rw [if_neg (by simp), show wd [((⟨#[117, 110, 119, 114, 97, 112]⟩ : ByteArray)), placeT r, quoteB o] 0 = ((⟨#[117, 110, 119, 114, 97, 112]⟩ : ByteArray)) from rfl, show kindOf ((⟨#[117, 110, 119, 114, 97, 112]⟩ : ByteArray)) = (10, 3) by decide +kernel, show wd [((⟨#[117, 110, 119, 114, 97, 112]⟩ : ByteArray)), placeT r, quoteB o] 1 = placeT r from rfl, placeOf_some hp rfl, show wd [((⟨#[117, 110, 119, 114, 97, 112]⟩ : ByteArray)), placeT r, quoteB o] 2 = quoteB o from rfl, unquote_quote ho]; rfl
  | rename r n hp hn =>
    rw [show lensW ⟨1, r, n, noB, 0, noField, [], []⟩ = [((⟨#[114, 101, 110, 97, 109, 101]⟩ : ByteArray)), placeT r, n] from rfl]
    unfold parseL
    rw [if_neg (by simp), show wd [((⟨#[114, 101, 110, 97, 109, 101]⟩ : ByteArray)), placeT r, n] 0 = ((⟨#[114, 101, 110, 97, 109, 101]⟩ : ByteArray)) from rfl, show kindOf ((⟨#[114, 101, 110, 97, 109, 101]⟩ : ByteArray)) = (1, 3) by decide +kernel, show wd [((⟨#[114, 101, 110, 97, 109, 101]⟩ : ByteArray)), placeT r, n] 1 = placeT r from rfl, placeOf_some hp rfl]; rfl
  | hoist r hp =>
    rw [show lensW ⟨4, r, noB, noB, 0, noField, [], []⟩ = [((⟨#[104, 111, 105, 115, 116]⟩ : ByteArray)), placeT r] from rfl]
    unfold parseL
    rw [if_neg (by simp), show wd [((⟨#[104, 111, 105, 115, 116]⟩ : ByteArray)), placeT r] 0 = ((⟨#[104, 111, 105, 115, 116]⟩ : ByteArray)) from rfl, show kindOf ((⟨#[104, 111, 105, 115, 116]⟩ : ByteArray)) = (4, 2) by decide +kernel, show wd [((⟨#[104, 111, 105, 115, 116]⟩ : ByteArray)), placeT r] 1 = placeT r from rfl, placeOf_some hp rfl]; rfl
  | plunge r n hp hn =>
    rw [show lensW ⟨5, r, n, noB, 0, noField, [], []⟩ = [((⟨#[112, 108, 117, 110, 103, 101]⟩ : ByteArray)), placeT r, n] from rfl]
    unfold parseL
    rw [if_neg (by simp), show wd [((⟨#[112, 108, 117, 110, 103, 101]⟩ : ByteArray)), placeT r, n] 0 = ((⟨#[112, 108, 117, 110, 103, 101]⟩ : ByteArray)) from rfl, show kindOf ((⟨#[112, 108, 117, 110, 103, 101]⟩ : ByteArray)) = (5, 3) by decide +kernel, show wd [((⟨#[112, 108, 117, 110, 103, 101]⟩ : ByteArray)), placeT r, n] 1 = placeT r from rfl, placeOf_some hp rfl]; rfl
theorem tagB_tagIn {t : TagD} (h : tagB t = true) : tagIn t := by
  unfold tagB at h
  simp only [Bool.and_eq_true, decide_eq_true_eq] at h
  exact ⟨⟨by omega, by omega⟩, ⟨by omega, by omega⟩⟩
theorem edgeB_tags {e : EdgeD} (h : edgeB e = true) : tagIn e.id ∧ tagIn e.parent ∧ rightL e.lens = true := by
  unfold edgeB at h
  simp only [Bool.and_eq_true, Bool.or_eq_true, decide_eq_true_eq] at h
  refine ⟨tagB_tagIn h.1.1, ?_, h.2.2⟩
  rcases h.1.2 with k | k
  · rw [k]; exact ⟨⟨by decide, by decide⟩, ⟨by decide, by decide⟩⟩
  · exact tagB_tagIn k.1
theorem parse_edge {e : EdgeD} (h : edgeB e = true) : parseE (edgeW e) = (e, true) := by
  obtain ⟨h1, h2, h3⟩ := edgeB_tags h
  unfold edgeW parseE
  rw [if_neg (by simp)]
  simp only [wd, List.getD_cons_succ, List.getD_cons_zero]
  rw [tagOf_some h1 rfl, tagOf_some h2 rfl]
  simp only [List.drop_succ_cons, List.drop_zero]
  rw [parse_lens h3]
-- what is read of a text
section
variable {α : Type}
open Classical in
noncomputable def pickT (ok : α → Bool) (txt : α → ByteArray) (s : ByteArray) : Option α := if h : ∃ a, ok a = true ∧ txt a = s then some h.choose else none
theorem pick_inv {ok : α → Bool} {txt : α → ByteArray} {s : ByteArray} {a : α} (h : pickT ok txt s = some a) : ok a = true ∧ txt a = s := by
  unfold pickT at h
  split at h
  · rename_i hx; injection h with h; subst h; exact hx.choose_spec
  · cases h
theorem pick_none {ok : α → Bool} {txt : α → ByteArray} {s : ByteArray} (h : ∀ a, ok a = true → txt a = s → False) : pickT ok txt s = none := by
  cases e : pickT ok txt s with
  | none => rfl
  | some r => exact absurd (pick_inv e).2 (fun k => h r (pick_inv e).1 k)
theorem pick_some {ok : α → Bool} {txt : α → ByteArray} {s : ByteArray} {a : α} (inj : ∀ a b, ok a = true → ok b = true → txt a = txt b → a = b) (h : ok a = true) (e : txt a = s) : pickT ok txt s = some a := by
  have hx : ∃ a, ok a = true ∧ txt a = s := ⟨a, h, e⟩
  unfold pickT
  rw [dif_pos hx]
  exact congrArg some (inj _ _ hx.choose_spec.1 h (hx.choose_spec.2.trans e.symm))
end
noncomputable def edgeS (s : ByteArray) : Option EdgeD := pickT edgeB textE s
theorem edge_back {e : EdgeD} (h : edgeB e = true) : parseE (splitB (textE e) 0) = (e, true) := by
  rw [show splitB (textE e) 0 = edgeW e from split_line (by unfold edgeW; simp) (edgeW_whole h), parse_edge h]
theorem edgeS_some {x : EdgeD} {s : ByteArray} (h : edgeB x = true) (e : textE x = s) : edgeS s = some x := pick_some (fun a b ha hb he => by
  have h1 := edge_back ha
  rw [he, edge_back hb] at h1
  exact (congrArg Prod.fst h1).symm) h e
theorem edgeS_no1 {s : ByteArray} (h : (parseE (splitB s 0)).2 = false) : edgeS s = none := pick_none fun f hf e => by rw [← e, edge_back hf] at h; cases h
theorem edgeS_no2 {s : ByteArray} (h : edgeB (parseE (splitB s 0)).1 = false) : edgeS s = none := pick_none fun f hf e => by rw [← e, edge_back hf] at h; rw [hf] at h; cases h
theorem edgeS_no3 {s : ByteArray} (h : ¬ textE (parseE (splitB s 0)).1 = s) : edgeS s = none := pick_none fun f hf e => by rw [← e, edge_back hf] at h; exact h rfl
end Go.Vm
end
section
namespace Go.Proofs
open Go.Shelf
def Tryz.laysJoin_ren : Go.Shelf.Ren := ⟨fun | 156 => 50 | 165 => 95 | 166 => 96 | 169 => 97 | 240 => 133 | 241 => 134 | 276 => 155 | 277 => 156 | n => n, fun | 31 => 26 | 9 => 9 | 3 => 3 | 4 => 4 | 0 => 0 | 20 => 20 | 72 => 135 | 76 => 139 | 70 => 132 | 37 => 133 | 75 => 138 | 127 => 175 | 164 => 191 | 5 => 5 | 80 => 141 | n => n, fun | n => n⟩
theorem Tryz.laysJoin : Go.Proofs.Lays.n156 Tryz.prog Tryz.laysJoin_ren := {
 mixed := by kernel_rfl
 f156 := Tryz.func50.trans (congrArg some (by kernel_rfl))
 f165 := Tryz.func95.trans (congrArg some (by kernel_rfl))
 f166 := Tryz.func96.trans (congrArg some (by kernel_rfl))
 f169 := Tryz.func97.trans (congrArg some (by kernel_rfl))
 f240 := Tryz.func133.trans (congrArg some (by kernel_rfl))
 f241 := Tryz.func134.trans (congrArg some (by kernel_rfl))
 f276 := Tryz.func155.trans (congrArg some (by kernel_rfl))
 f277 := Tryz.func156.trans (congrArg some (by kernel_rfl))
 t0 := Tryz.underlying0
 a0 := Tryz.isAgg0
 z0 := Tryz.sizeOf0
 v0 := Tryz.zeroValue0
 t3 := Tryz.underlying3
 a3 := Tryz.isAgg3
 z3 := Tryz.sizeOf3
 v3 := Tryz.zeroValue3
 t4 := Tryz.underlying4
 a4 := Tryz.isAgg4
 z4 := Tryz.sizeOf4
 v4 := Tryz.zeroValue4
 t9 := Tryz.underlying9
 a9 := Tryz.isAgg9
 z9 := Tryz.sizeOf9
 v9 := Tryz.zeroValue9
 t20 := Tryz.underlying20
 a20 := Tryz.isAgg20
 z20 := Tryz.sizeOf20
 v20 := Tryz.zeroValue20
 t31 := Tryz.underlying26
 a31 := Tryz.isAgg26
 z31 := Tryz.sizeOf26
 v31 := Tryz.zeroValue26
 t37 := Tryz.underlying133
 a37 := Tryz.isAgg133
 z37 := Tryz.sizeOf133
 v37 := Tryz.zeroValue133
 t70 := Tryz.underlying132
 a70 := Tryz.isAgg132
 z70 := Tryz.sizeOf132
 v70 := Tryz.zeroValue132
 t72 := Tryz.underlying135
 a72 := Tryz.isAgg135
 z72 := Tryz.sizeOf135
 v72 := Tryz.zeroValue135
 t75 := Tryz.underlying138
 a75 := Tryz.isAgg138
 z75 := Tryz.sizeOf138
 v75 := Tryz.zeroValue138
 t76 := Tryz.underlying139
 a76 := Tryz.isAgg139
 z76 := Tryz.sizeOf139
 v76 := Tryz.zeroValue139
 t127 := Tryz.underlying175
 a127 := Tryz.isAgg175
 z127 := Tryz.sizeOf175
 v127 := Tryz.zeroValue175
 t164 := Tryz.underlying191
 a164 := Tryz.isAgg191
 z164 := Tryz.sizeOf191
 v164 := Tryz.zeroValue191 }
def Tryz.laysSplit_ren : Go.Shelf.Ren := ⟨fun | 146 => 122 | 221 => 148 | 268 => 162 | 138 => 163 | 143 => 164 | 195 => 183 | 197 => 184 | 218 => 185 | 219 => 182 | 260 => 202 | 217 => 198 | 225 => 199 | 224 => 200 | 267 => 201 | 266 => 204 | 314 => 205 | n => n, fun | 9 => 9 | 31 => 26 | 3 => 3 | 4 => 4 | 0 => 0 | 105 => 220 | 21 => 21 | 5 => 5 | 46 => 188 | 119 => 238 | 139 => 241 | 138 => 240 | 146 => 236 | 51 => 216 | n => n, fun | 1 => 0 | 3 => 1 | 4 => 2 | n => n⟩
theorem Tryz.laysSplit : Go.Proofs.Lays.n146 Tryz.prog Tryz.laysSplit_ren := {
 mixed := by kernel_rfl
 f138 := Tryz.func163.trans (congrArg some (by kernel_rfl))
 f143 := Tryz.func164.trans (congrArg some (by kernel_rfl))
 f146 := Tryz.func122.trans (congrArg some (by kernel_rfl))
 f195 := Tryz.func183.trans (congrArg some (by kernel_rfl))
 f197 := Tryz.func184.trans (congrArg some (by kernel_rfl))
 f217 := Tryz.func198.trans (congrArg some (by kernel_rfl))
 f218 := Tryz.func185.trans (congrArg some (by kernel_rfl))
 f219 := Tryz.func182.trans (congrArg some (by kernel_rfl))
 f221 := Tryz.func148.trans (congrArg some (by kernel_rfl))
 f224 := Tryz.func200.trans (congrArg some (by kernel_rfl))
 f225 := Tryz.func199.trans (congrArg some (by kernel_rfl))
 f260 := Tryz.func202.trans (congrArg some (by kernel_rfl))
 f266 := Tryz.func204.trans (congrArg some (by kernel_rfl))
 f267 := Tryz.func201.trans (congrArg some (by kernel_rfl))
 f268 := Tryz.func162.trans (congrArg some (by kernel_rfl))
 f314 := Tryz.func205.trans (congrArg some (by kernel_rfl))
 t0 := Tryz.underlying0
 a0 := Tryz.isAgg0
 z0 := Tryz.sizeOf0
 v0 := Tryz.zeroValue0
 t3 := Tryz.underlying3
 a3 := Tryz.isAgg3
 z3 := Tryz.sizeOf3
 v3 := Tryz.zeroValue3
 t4 := Tryz.underlying4
 a4 := Tryz.isAgg4
 z4 := Tryz.sizeOf4
 v4 := Tryz.zeroValue4
 t5 := Tryz.underlying5
 a5 := Tryz.isAgg5
 z5 := Tryz.sizeOf5
 v5 := Tryz.zeroValue5
 t9 := Tryz.underlying9
 a9 := Tryz.isAgg9
 z9 := Tryz.sizeOf9
 v9 := Tryz.zeroValue9
 t21 := Tryz.underlying21
 a21 := Tryz.isAgg21
 z21 := Tryz.sizeOf21
 v21 := Tryz.zeroValue21
 t31 := Tryz.underlying26
 a31 := Tryz.isAgg26
 z31 := Tryz.sizeOf26
 v31 := Tryz.zeroValue26
 t46 := Tryz.underlying188
 a46 := Tryz.isAgg188
 z46 := Tryz.sizeOf188
 v46 := Tryz.zeroValue188
 t51 := Tryz.underlying216
 a51 := Tryz.isAgg216
 z51 := Tryz.sizeOf216
 v51 := Tryz.zeroValue216
 t105 := Tryz.underlying220
 a105 := Tryz.isAgg220
 z105 := Tryz.sizeOf220
 v105 := Tryz.zeroValue220
 t119 := Tryz.underlying238
 a119 := Tryz.isAgg238
 z119 := Tryz.sizeOf238
 t138 := Tryz.underlying240
 a138 := Tryz.isAgg240
 z138 := Tryz.sizeOf240
 v138 := Tryz.zeroValue240
 t139 := Tryz.underlying241
 a139 := Tryz.isAgg241
 z139 := Tryz.sizeOf241
 v139 := Tryz.zeroValue241
 t146 := Tryz.underlying236
 a146 := Tryz.isAgg236
 z146 := Tryz.sizeOf236
 v146 := Tryz.zeroValue236
 g1 := by kernel_rfl
 g3 := by kernel_rfl
 g4 := by kernel_rfl }
def Tryz.laysIndex_ren : Go.Shelf.Ren := ⟨fun | 219 => 182 | 217 => 198 | 225 => 199 | 224 => 200 | 267 => 201 | 266 => 204 | 314 => 205 | n => n, fun | 9 => 9 | 3 => 3 | 4 => 4 | 5 => 5 | 46 => 188 | 146 => 236 | 51 => 216 | n => n, fun | 1 => 0 | n => n⟩
theorem Tryz.laysIndex : Go.Proofs.Lays.n219 Tryz.prog Tryz.laysIndex_ren := {
 mixed := by kernel_rfl
 f217 := Tryz.func198.trans (congrArg some (by kernel_rfl))
 f219 := Tryz.func182.trans (congrArg some (by kernel_rfl))
 f224 := Tryz.func200.trans (congrArg some (by kernel_rfl))
 f225 := Tryz.func199.trans (congrArg some (by kernel_rfl))
 f266 := Tryz.func204.trans (congrArg some (by kernel_rfl))
 f267 := Tryz.func201.trans (congrArg some (by kernel_rfl))
 f314 := Tryz.func205.trans (congrArg some (by kernel_rfl))
 t3 := Tryz.underlying3
 a3 := Tryz.isAgg3
 z3 := Tryz.sizeOf3
 v3 := Tryz.zeroValue3
 t4 := Tryz.underlying4
 a4 := Tryz.isAgg4
 z4 := Tryz.sizeOf4
 v4 := Tryz.zeroValue4
 t5 := Tryz.underlying5
 a5 := Tryz.isAgg5
 z5 := Tryz.sizeOf5
 v5 := Tryz.zeroValue5
 t9 := Tryz.underlying9
 a9 := Tryz.isAgg9
 z9 := Tryz.sizeOf9
 v9 := Tryz.zeroValue9
 t46 := Tryz.underlying188
 a46 := Tryz.isAgg188
 z46 := Tryz.sizeOf188
 v46 := Tryz.zeroValue188
 t51 := Tryz.underlying216
 a51 := Tryz.isAgg216
 z51 := Tryz.sizeOf216
 v51 := Tryz.zeroValue216
 t146 := Tryz.underlying236
 a146 := Tryz.isAgg236
 z146 := Tryz.sizeOf236
 v146 := Tryz.zeroValue236
 g1 := by kernel_rfl }
theorem Tryz.builderJoin : Builder.Extra Tryz.prog Tryz.laysJoin_ren := {
 sizeBuilder := by kernel_rfl
 liesBuilder := by kernel_rfl
 t5 := Tryz.underlying5
 a5 := Tryz.isAgg5
 z5 := Tryz.sizeOf5
 v5 := Tryz.zeroValue5
 infoByte := by kernel_rfl
 cellsByte := by kernel_rfl
 sizeByte := by kernel_rfl
 neB5 := by decide }
end Go.Proofs
end
section
namespace Go.Vm
open Go.RowKit
def allFrozen : Roles := fun _ => .frozen
theorem okFrozen (b off : Nat) : okAt allFrozen b off := trivial
section
variable {P : Program} {w : World}
def Cells (P : Program) (w : World) (t : TypeId) {α : Type} (enc : α → D) (ok : α → Prop) : Prop := ∀ es, Reads P w t es → ∃ x : α, Reps allFrozen w es (enc x).cells ∧ ok x
theorem cells_at : ∀ {ess : List (List Value)} {b off sz : Nat}, (∀ (i : Nat) (es : List Value), ess[i]? = some es → es.length = sz ∧ ∀ (j : Nat) (u : Value), es[j]? = some u → w.cell? ⟨b, off + i * sz + j, none⟩ = some u) →
    ess.flatten.length = ess.length * sz ∧ ∀ (j : Nat) (u : Value), ess.flatten[j]? = some u → w.cell? ⟨b, off + j, none⟩ = some u
  | [], b, off, sz, _ => ⟨by simp, by simp⟩
  | es :: ess, b, off, sz, h => by
    obtain ⟨h0, h1⟩ := h 0 es rfl
    obtain ⟨k0, k1⟩ := cells_at (ess := ess) (b := b) (off := off + sz) (sz := sz) (fun i es' hes => by
      obtain ⟨g0, g1⟩ := h (i + 1) es' (by simpa using hes)
      refine ⟨g0, fun j u hu => ?_⟩
      have := g1 j u hu
      rw [Nat.add_mul, Nat.one_mul] at this
      rw [show off + sz + i * sz + j = off + (i * sz + sz) + j by omega]; exact this)
    refine ⟨by rw [List.flatten_cons, List.length_append, k0, h0, List.length_cons, Nat.add_mul, Nat.one_mul, Nat.add_comm], fun j u hu => ?_⟩
    rw [List.flatten_cons] at hu
    by_cases hj : j < es.length
    · rw [List.getElem?_append_left hj] at hu
      have := h1 j u hu
      simpa using this
    · rw [List.getElem?_append_right (by omega)] at hu
      have := k1 (j - es.length) u hu
      rw [h0] at this
      rw [show off + j = off + sz + (j - sz) by omega]; exact this
theorem reps_flat {α : Type} {enc : α → D} : ∀ {ps : List (List Value × α)}, (∀ p ∈ ps, Reps allFrozen w p.1 (enc p.2).cells) → Reps allFrozen w (ps.map (·.1)).flatten (flat ((ps.map (·.2)).map enc))
  | [], _ => by simpa [flat] using Reps.nil
  | p :: ps, h => by
    have h1 := h p (List.mem_cons_self ..)
    have h2 := reps_flat (ps := ps) fun q hq => h q (List.mem_cons_of_mem _ hq)
    simp only [List.map_cons, List.flatten_cons, flat, List.flatMap_cons] at h2 ⊢
    exact h1.append h2
theorem row_of {t e : TypeId} {sz : Nat} {α : Type} {enc : α → D} {ok : α → Prop} (ht : P.underlying t = some (.slice e)) (hsz : P.cellsOf e = sz) (h0 : 0 < sz) (hw : ∀ x, (enc x).cells.length = sz) (hel : Cells P w e enc ok) {a : Option Addr} {l c : Nat} (h : Reads P w t [.slice a l c]) :
    ∃ xs : List α, Rep allFrozen w (.slice a l c) (.row (xs.map enc)) ∧ ∀ x ∈ xs, ok x := by
  rcases h.slice ht with h | ⟨ad, len, cap, h, h1, h2, h3⟩
  · injection h with h; injection h with h4 h5 h6
    subst h4 h5 h6
    exact ⟨[], .nil (by simp [maxLen]), by simp⟩
  · injection h with h; injection h with h4 h5 h6
    subst h4 h5 h6
    rw [hsz] at h3
    obtain ⟨ps, hl, hp⟩ := choose_list (Q := fun i (p : List Value × α) => p.1.length = sz ∧ (∀ j (hj : j < p.1.length), w.cell? ((ad.add (i * sz)).add j) = some p.1[j]) ∧ Reps allFrozen w p.1 (enc p.2).cells ∧ ok p.2) l (fun i hi => by
      obtain ⟨es, q1, q2, q3⟩ := h3 i hi
      obtain ⟨x, hx, hok⟩ := hel es q3
      exact ⟨(es, x), q1, q2, hx, hok⟩)
    by_cases hz : l = 0
    · subst hz
      obtain rfl : ps = [] := List.length_eq_zero_iff.1 hl
      exact ⟨[], .nil h2, by simp⟩
    · have hlt : 0 < ps.length := by omega
      have had : ad = ⟨ad.block, ad.off, none⟩ := by
        obtain ⟨q1, q2, _⟩ := hp 0 hlt
        have := q2 0 (by omega)
        have e0 : (ad.add (0 * sz)).add 0 = ad := by simp [Addr.add]
        rw [e0] at this
        exact addr_of_cell this
      have hcells := cells_at (w := w) (ess := ps.map (·.1)) (b := ad.block) (off := ad.off) (sz := sz) (fun i es hes => by
        rw [List.getElem?_map] at hes
        cases hpi : ps[i]? with
        | none => rw [hpi] at hes; cases hes
        | some p =>
          rw [hpi] at hes
          simp only [Option.map_some, Option.some.injEq] at hes
          subst hes
          obtain ⟨hi, rfl⟩ := List.getElem?_eq_some_iff.1 hpi
          obtain ⟨q1, q2, _⟩ := hp i hi
          refine ⟨q1, fun j u hu => ?_⟩
          obtain ⟨hj, rfl⟩ := List.getElem?_eq_some_iff.1 hu
          have := q2 j hj
          rw [had, add_spot, add_spot] at this
          exact this)
      have hmem : ∀ p ∈ ps, Reps allFrozen w p.1 (enc p.2).cells ∧ ok p.2 := by
        intro p hpm
        obtain ⟨i, hi, rfl⟩ := List.getElem_of_mem hpm
        exact (hp i hi).2.2
      have hr := reps_flat (enc := enc) (fun p hpm => (hmem p hpm).1)
      refine ⟨ps.map (·.2), ?_, fun x hx => ?_⟩
      · have hlen : ((ps.map (·.2)).map enc).length = l := by simp [hl]
        rw [had]
        have := Rep.row (ro := allFrozen) (w := w) (b := ad.block) (off := ad.off) (cap := c) (sz := sz) (xs := (ps.map (·.2)).map enc) (ps.map (·.1)).flatten h0 (by rw [hlen]; exact h1) h2 (by rw [hcells.1, hlen]; simp [hl]) (fun x hx => by obtain ⟨y, _, rfl⟩ := List.mem_map.1 hx; exact hw y) hr.2.1 (fun j u hu => ⟨hcells.2 j u hu, okFrozen _ _⟩) hr.2.2
        rw [hlen] at this
        exact this
      · obtain ⟨p, hpm, rfl⟩ := List.mem_map.1 hx
        exact (hmem p hpm).2
theorem law_trueH {f : FuncId} {args : List D} {vs : Array Value} {pre post : List (Nat × S)} (hc : ContractH P f args pre [.d (.sc (.bool true))] post) (hp : ∀ p ∈ pre, p.2 = .free) (hl : vs.size = args.length) (hr : ∀ (i : Nat) (v : Value) (d : D), vs.toList[i]? = some v → args[i]? = some d → Rep allFrozen w v d) :
    Calls P f vs w fun e w' => e = .returned (.bool true) ∧ Below w.heap.size w w' := by
  refine (hc allFrozen w vs 0 (fun _ _ => rfl) (fun _ _ _ _ _ h => by cases h) hl hr (fun p hm => by rw [hp p hm]; intro b k h; cases h)).mono ?_
  rintro e w' ⟨v, ro', rfl, hg, hs, _⟩
  have : v = .bool true := (rep_sc (show Rep ro' w' v (.sc (.bool true)) from hs)).1
  exact ⟨by rw [this], hg.os, hg.tape, hg.output, hg.size, fun k hk => hg.block k hk fun id m h => by cases h⟩
end
end Go.Vm
end
section
namespace Go.Vm
open Go.RowKit
section
variable {P : Program} {f : FuncId} {ro : Roles} {w w' : World}
theorem grow_below (hn : ∀ b, w.heap.size ≤ b → ro b = .frozen) (h : Below w.heap.size w w') : Grow ro ro w w' :=
  ⟨h, fun _ _ => rfl, fun b hb => hn b (Nat.le_trans h.size hb), fun b id k hb hr => by rw [hn b hb] at hr; cases hr⟩
theorem args_sc {vs : Array Value} {us : List Value} (hl : vs.size = (us.map D.sc).length) (h : ∀ (i : Nat) (v : Value) (d : D), vs.toList[i]? = some v → (us.map D.sc)[i]? = some d → Rep ro w v d) : vs = us.toArray := by
  have hl' : vs.size = us.length := by simpa using hl
  apply Array.ext
  · simpa using hl'
  · intro i h1 h2
    have hu : i < us.length := by omega
    have := h i vs[i] (.sc us[i]) (by simp [h1]) (by simp [hu])
    simpa using (rep_sc this).1
theorem old_one {us : List Value} {r : Value} (hp : plainV r = true) (h : ∀ w, Calls P f us.toArray w fun e w' => e = .returned r ∧ Below w.heap.size w w') : Contract P f (us.map D.sc) [.d (.sc r)] := by
  intro ro w vs τ h1 h2 h3 h4
  rw [args_sc h3 h4]
  refine (h w).mono ?_
  rintro e w' ⟨rfl, hb⟩
  exact ⟨r, ro, rfl, grow_below h1 hb, .sc hp⟩
theorem old_tup {us : List Value} {r1 r2 : Value} {rs : List Value} (hp : ∀ r ∈ r1 :: r2 :: rs, plainV r = true) (h : ∀ w, Calls P f us.toArray w fun e w' => e = .returned (.tuple (r1 :: r2 :: rs).toArray) ∧ Below w.heap.size w w') :
    Contract P f (us.map D.sc) ((r1 :: r2 :: rs).map fun r => C.d (.sc r)) := by
  intro ro w vs τ h1 h2 h3 h4
  rw [args_sc h3 h4]
  refine (h w).mono ?_
  rintro e w' ⟨rfl, hb⟩
  refine ⟨_, ro, rfl, grow_below h1 hb, ?_⟩
  have e1 : resS (((r1 :: r2 :: rs).map fun r => C.d (.sc r)).map (setTok τ)) = .tup ((r1 :: r2 :: rs).map fun r => C.d (.sc r)) := by
    simp only [List.map_cons, resS, setTok]
    congr 1
    simp only [List.map_map]
    congr 2
  rw [e1]
  refine ⟨_, rfl, by simp, fun i u c hu hc => ?_⟩
  simp only [List.toList_toArray] at hu
  rw [List.getElem?_map, hu] at hc
  simp only [Option.map_some, Option.some.injEq] at hc
  subst hc
  exact .sc (hp u (List.mem_of_getElem? hu))
theorem flat_strs (l : List ByteArray) : flat (l.map strD) = l.map strD := by
  unfold flat
  induction l with
  | nil => rfl
  | cons a l ih => rw [List.map_cons, List.flatMap_cons, ih]; rfl
theorem rep_strs {l : List ByteArray} {T : TypeId} {base : Nat} {v : Value} (hn : ∀ b, base ≤ b → ro b = .frozen) (ho : w.ownsRow base T 1 v l.length (l.map Value.string)) : Rep ro w v (.row (l.map strD)) := by
  obtain ⟨hl, h | ⟨g, cap, cur, rfl, hg, hh, hc, hm, hs, ht⟩⟩ := ho
  · obtain ⟨rfl, h0⟩ := h
    rw [List.length_eq_zero_iff.1 h0]
    exact .nil (by simp [maxLen])
  · have hlen : l.length = (l.map strD).length := by simp
    rw [hlen]
    refine .row (sz := 1) (l.map Value.string) (by omega) (by simpa using hc) hm (by simp) ?_ ?_ ?_ ?_
    · intro x hx
      obtain ⟨a, _, rfl⟩ := List.mem_map.1 hx
      rfl
    · intro u hu
      obtain ⟨a, _, rfl⟩ := List.mem_map.1 hu
      rfl
    · intro j u hu
      refine ⟨?_, by unfold okAt; rw [hn g hg]; trivial⟩
      have := World.ownsRow.cells (w := w) (base := base) (e := T) (size := 1) (v := .slice (some ⟨g, 0, none⟩) l.length cap) (n := l.length) (xs := l.map Value.string) ⟨hl, .inr ⟨g, cap, cur, rfl, hg, hh, hc, hm, hs, ht⟩⟩ (g := g) rfl j u hu
      have e : (⟨g, 0, none⟩ : Addr).add j = ⟨g, 0 + j, none⟩ := by
        unfold Addr.add
        by_cases hj : j = 0 <;> simp [hj]
      rw [e] at this
      exact this
    · intro j u c hu hc
      rw [flat_strs, List.getElem?_map] at hc
      rw [List.getElem?_map] at hu
      cases ha : l[j]? with
      | none => rw [ha] at hc; cases hc
      | some a =>
        rw [ha] at hu hc
        simp only [Option.map_some, Option.some.injEq] at hu hc
        subst hu hc
        exact .sc rfl
theorem old_strs {us : List Value} {l : List ByteArray} {T : TypeId} (h : ∀ w, Calls P f us.toArray w fun e w' => ∃ v, e = .returned v ∧ w'.ownsRow w.heap.size T 1 v l.length (l.map Value.string) ∧ Below w.heap.size w w') : Contract P f (us.map D.sc) [.d (.row (l.map strD))] := by
  intro ro w vs τ h1 h2 h3 h4
  rw [args_sc h3 h4]
  refine (h w).mono ?_
  rintro e w' ⟨v, rfl, ho, hb⟩
  exact ⟨v, ro, rfl, grow_below h1 hb, rep_strs h1 ho⟩
end
end Go.Vm
end
section
namespace Go.Proofs
open Go.Shelf Go.RowKit Go.Lib
variable {P : Program} {ρ : Ren}
theorem index_byte (c : UInt8) : ∀ l : List UInt8, Lib.index l [c] = Lib.indexByte l c
  | [] => rfl
  | b :: l => by
    have ih := index_byte c l
    unfold Lib.index Lib.indexByte
    rw [ih]
    by_cases e : b = c
    · subst e; simp
    · have e' : ¬ c = b := fun k => e k.symm
      simp [List.isPrefixOf, e, e']
theorem split_byte (L : Lays.n146 P ρ) (hi9 : (P.info? (ρ.t 9)).map (fun i => (i.zero, i.size, i.bytes)) = some (some (.string ByteArray.empty), 1, 16)) (s : ByteArray) (c : UInt8) (w : World) (hs : s.size < 4294967281) :
    Calls P (ρ.f 146) #[.string s, .string ⟨#[c]⟩] w fun e w' =>
      e = .returned (.slice (some ⟨w.heap.size, 0, none⟩) (Lib.countB s ⟨#[c]⟩ + 1) (Lib.countB s ⟨#[c]⟩ + 1)) ∧ w' = w.alloc (.cells ((Lib.splitB ⟨#[c]⟩ 0 (Lib.countB s ⟨#[c]⟩) s).map Value.string).toArray (ρ.t 9)) := by
  have h1 : 1 ≤ (⟨#[c]⟩ : ByteArray).size := Nat.le_refl 1
  have hle := Lib.countB_le ⟨#[c]⟩ h1 s.size s (Nat.le_refl _)
  have hlen := Lib.splitB_all ⟨#[c]⟩ h1 0 _ s rfl
  have core := Any.strings_genSplit_core { L with } hi9 s ⟨#[c]⟩ 0 (-1) (Lib.countB s ⟨#[c]⟩ + 1) w hs h1 (Nat.zero_le _)
    (fun x a hx => (Any.strings_Index_one { L with } x c _).mono (by rintro e w' ⟨rfl, rfl⟩; exact ⟨by rw [← index_byte], rfl⟩))
    ((Any.strings_Count_one { L with } s c w).mono (by rintro e w' ⟨rfl, rfl⟩; exact ⟨by rw [show Lib.countB s ⟨#[c]⟩ = s.data.toList.count c from Lib.count_one c _]; rfl, rfl⟩))
    (by decide) (by decide) (by rw [if_pos (by decide)]; omega)
  rw [Nat.add_sub_cancel, hlen] at core
  have e2 : Lib.cellsOf (Lib.splitB ⟨#[c]⟩ 0 (Lib.countB s ⟨#[c]⟩) s) (Lib.countB s ⟨#[c]⟩ + 1) = ((Lib.splitB ⟨#[c]⟩ 0 (Lib.countB s ⟨#[c]⟩) s).map Value.string).toArray := by rw [← hlen]; exact Lib.cellsOf_full _
  rw [e2] at core
  have t3 := L.t3; have t9 := L.t9; have t31 := L.t31
  have a3 := L.a3; have a9 := L.a9; have a31 := L.a31
  have z3 := L.z3; have v3 := L.v3; have z9 := L.z9; have v9 := L.v9; have z31 := L.z31; have v31 := L.v31
  have e221 : ∀ args w, (callFunc (ρ.f 221) args).run P w = .ok (.enter (ρ.f 221) args) w := enters_of L.f221 (by kernel_rfl) rfl
  go_enter L.f146, Body.n146_ntmps ρ
  go_wp2_with (go_at_fn (ρ.f 221); refine core.mono ?_; rintro e w' ⟨rfl, hw⟩; rw [hw])
  go_ret
  exact ⟨rfl, rfl⟩
end Go.Proofs
namespace Go.Vm
open Go.RowKit Go.Proofs
theorem split1_any (c : UInt8) (s : ByteArray) (hs : s.size ≤ 1000000) : Contract Tryz.prog 122 [.sc (.string s), .sc (.string ⟨#[c]⟩)] [.d (.row ((splitW c s).map strD))] := by
  refine old_strs (us := [.string s, .string ⟨#[c]⟩]) (T := 9) (fun w => ?_)
  refine (split_byte Tryz.laysSplit (by kernel_rfl) s c w (by omega)).mono ?_
  rintro e w' ⟨rfl, rfl⟩
  have hl := Lib.splitB_all ⟨#[c]⟩ (Nat.le_refl 1) 0 _ s rfl
  have hle := Lib.countB_le ⟨#[c]⟩ (Nat.le_refl 1) s.size s (Nat.le_refl _)
  rw [splitW_lib] at hl ⊢
  refine ⟨_, rfl, ?_, ?_⟩
  · have := World.ownsRow_lit (base := w.heap.size) (e := 9) (size := 1) w ((splitW c s).map Value.string).toArray (splitW c s).length (Nat.le_refl _) (by unfold maxLen; omega) (by simp)
    have e : ((splitW c s).map Value.string).toArray.toList = (splitW c s).map Value.string := by simp
    rw [e] at this
    rw [← hl]
    exact this
  · exact (Below.refl _ _).alloc (Nat.le_refl _) _
theorem index1_any (c : UInt8) (s : ByteArray) : Contract Tryz.prog 182 [.sc (.string s), .sc (.string ⟨#[c]⟩)] [.d (.sc (.int .i64 (Lib.index s.data.toList [c])))] := by
  refine old_one (us := [.string s, .string ⟨#[c]⟩]) rfl (fun w => ?_)
  refine (Any.stringslite_Index_one Tryz.laysIndex s c w).mono ?_
  rintro e w' ⟨rfl, rfl⟩
  exact ⟨by rw [index_byte], Below.refl _ _⟩
theorem join_any (c : UInt8) (l : List ByteArray) (hl : l.length ≤ 1000000) (hb : (joinW c l).size ≤ 100000000) : Contract Tryz.prog 50 [.row (l.map strD), .sc (.string ⟨#[c]⟩)] [.d (.sc (.string (joinW c l)))] := by
  intro ro w vs τ h1 h2 h3 h4
  have hlen : (Lib.join (l.map (·.data.toList)) [c]).length ≤ 281474976710656 := by
    rw [join_lib]
    have : (joinW c l).size = (joinC c (l.map (·.data.toList))).length := by rw [← ba_len, joinW_data]
    omega
  have hs2 : vs.size = 2 := by simpa using h3
  have r0 := h4 0 vs[0] (.row (l.map strD)) (by simp [hs2]) rfl
  have r1 := h4 1 vs[1] (.sc (.string ⟨#[c]⟩)) (by simp [hs2]) rfl
  have e1 := (rep_sc r1).1
  have hvs : vs = #[vs[0], .string ⟨#[c]⟩] := by
    apply Array.ext
    · simp [hs2]
    · intro i q1 q2
      match i, q1, q2 with
      | 0, _, _ => rfl
      | 1, _, _ => exact e1
  have fin : ∀ w', Below w.heap.size w w' → ∃ v ro', Ending.returned (Value.string (joinW c l)) = .returned v ∧ Grow ro ro' w w' ∧ SatS Tryz.prog w.heap.size ro' (fun _ => 0) w' 0 v (resS ([C.d (.sc (.string (joinW c l)))].map (setTok τ))) := fun w' hb =>
    ⟨_, ro, rfl, grow_below h1 hb, .sc rfl⟩
  rw [hvs]
  generalize vs[0] = v0 at r0 ⊢
  have empty : l = [] → ∀ a cap, Calls Tryz.prog 50 #[.slice a 0 cap, .string ⟨#[c]⟩] w fun e w' => ∃ v ro', e = .returned v ∧ Grow ro ro' w w' ∧ SatS Tryz.prog w.heap.size ro' (fun _ => 0) w' 0 v (resS ([C.d (.sc (.string (joinW c l)))].map (setTok τ))) := fun hl a cap => by
    refine (Any.strings_Join_none Tryz.laysJoin Tryz.builderJoin a cap ⟨#[c]⟩ w).mono ?_
    rintro e w' ⟨rfl, rfl⟩
    have := fin _ (Below.refl _ _)
    rw [hl] at this ⊢
    exact this
  generalize hxs : l.map strD = xs at r0
  cases r0 with
  | nil hm => exact empty (by simpa using hxs) _ _
  | row us hsz hlc hm hus hw ho hcell hrep =>
    subst hxs
    by_cases h0 : l = []
    · have := empty h0
      rw [h0]
      rw [h0] at this
      exact this _ _
    · rename_i b off cap sz
      have hw1 : sz = 1 := by
        cases l with
        | nil => exact absurd rfl h0
        | cons a l => exact (hw (strD a) (by simp)).symm
      subst hw1
      have hc : ∀ (j : Nat) x, l[j]? = some x → w.cell? ⟨b, off + j, none⟩ = some (.string x) := fun j x hx => by
        have hj : j < us.length := by rw [hus, List.length_map, Nat.mul_one]; exact (List.getElem?_eq_some_iff.1 hx).1
        have hu := List.getElem?_eq_getElem hj
        have hr := hrep j us[j] (strD x) hu (by rw [flat_strs, List.getElem?_map, hx]; rfl)
        rw [← (rep_sc hr).1]
        exact (hcell j _ hu).1
      have hbk : b < w.heap.size := by
        cases l with
        | nil => exact absurd rfl h0
        | cons a l => exact World.block_lt_of_cell? _ _ (hc 0 a rfl)
      have hlen2 : (l.map strD).length = l.length := by simp
      rw [hlen2]
      refine (Any.strings_Join_48 Tryz.laysJoin Tryz.builderJoin b off cap l ⟨#[c]⟩ w hc hbk (by omega) (by omega) hlen).mono ?_
      rintro e w' ⟨rfl, hb⟩
      have := fin w' hb
      rw [show (⟨(Lib.join (l.map (·.data.toList)) (⟨#[c]⟩ : ByteArray).data.toList).toArray⟩ : ByteArray) = joinW c l from congrArg mkB (join_lib _)]
      exact this
end Go.Vm
end
section
namespace Go.Vm
open Go.RowKit Go.Proofs
set_option maxRecDepth 10000
open Go.Proofs.YtmmffeldlhofiaaGreatDoor Punnet.Name Punnet.Num
theorem lit_size (l : Array UInt8) : (⟨l⟩ : ByteArray).size = l.size := rfl
theorem sct {a b : ByteArray} (h : a = b) : D.sc (.string a) = D.sc (.string b) := by rw [h]
theorem wd_ix {w : List ByteArray} {n : Int} {i : Nat} (e : n.toNat = i) (h : i < w.length) : (w.map strD)[n.toNat]? = some (strD (wd w i)) := by
  rw [e, List.getElem?_map, List.getElem?_eq_getElem h]
  simp [wd, h]
theorem str1_wide {a : ByteArray} : ∀ x ∈ [strD a], x.cells.length = 1 := by intro x hx; rw [List.mem_singleton.1 hx]; rfl
theorem strsl_wide (l : List ByteArray) : ∀ x ∈ l.map strD, x.cells.length = 1 := by intro x hx; obtain ⟨e, _, rfl⟩ := List.mem_map.1 hx; rfl
theorem splitW_pos {c : UInt8} {s : ByteArray} : 0 < (splitW c s).length := List.length_pos_iff.2 (splitW_ne s)
theorem place_sizes {r : RefD} (h : placeB r = true) : r.group.size ≤ 12 ∧ r.name.size ≤ 12 := ⟨(placeB_size h).2.1, (placeB_size h).2.2⟩
theorem fieldPrint_any (r : RefD) : Contract Tryz.prog 92 [rD r] [.d (.sc (.string (if placeB r = true then placeT r else ⟨#[63]⟩)))] := by
 refine T.fn [] Tryz.func92 ?_
 refine x_call T.en_108 (place_any r) ?_
 refine br (fun hc1 => ?y1) (fun hc1 => ?n1)
 case' y1 =>
  have hp : placeB r = false := hc1
 case' n1 =>
  have hp : placeB r = true := hc1
  have hsz := place_sizes hp
  refine br (fun hc2 => ?y2) (fun hc2 => ?n2)
  case' y2 =>
   refine br (fun hc3 => ?y3) (fun hc3 => ?n3)
   case' y3 =>
    refine x_cat ?_ (h := by ((simp only [ByteArray.size_append, lit_size, List.size_toArray, List.length_cons, List.length_nil]; omega)))
    refine x_cat ?_ (h := by ((simp only [ByteArray.size_append, lit_size, List.size_toArray, List.length_cons, List.length_nil]; omega)))
    refine x_cat ?_ (h := by ((simp only [ByteArray.size_append, lit_size, List.size_toArray, List.length_cons, List.length_nil]; omega)))
    refine x_cat ?_ (h := by ((simp only [ByteArray.size_append, lit_size, List.size_toArray, List.length_cons, List.length_nil]; omega)))
   case' n3 =>
    refine x_cat ?_ (h := by ((simp only [ByteArray.size_append, lit_size, List.size_toArray, List.length_cons, List.length_nil]; omega)))
    refine x_cat ?_ (h := by ((simp only [ByteArray.size_append, lit_size, List.size_toArray, List.length_cons, List.length_nil]; omega)))
  case' n2 =>
   refine br (fun hc4 => ?y4) (fun hc4 => ?n4)
   case' y4 =>
    refine x_cat ?_ (h := by ((simp only [ByteArray.size_append, lit_size, List.size_toArray, List.length_cons, List.length_nil]; omega)))
    refine x_cat ?_ (h := by ((simp only [ByteArray.size_append, lit_size, List.size_toArray, List.length_cons, List.length_nil]; omega)))
    refine x_cat ?_ (h := by ((simp only [ByteArray.size_append, lit_size, List.size_toArray, List.length_cons, List.length_nil]; omega)))
    refine x_cat ?_ (h := by ((simp only [ByteArray.size_append, lit_size, List.size_toArray, List.length_cons, List.length_nil]; omega)))
   case' n4 =>
    refine x_cat ?_ (h := by ((simp only [ByteArray.size_append, lit_size, List.size_toArray, List.length_cons, List.length_nil]; omega)))
    refine x_cat ?_ (h := by ((simp only [ByteArray.size_append, lit_size, List.size_toArray, List.length_cons, List.length_nil]; omega)))
 all_goals (refine x_ret ?_; simp only [fitsL, fits, C.asD, and_true] <;> (first | (rw [if_neg (by rw [hp]; decide)]; done) | (rw [if_pos hp]; first | rfl | (refine sct (ba_ext ?_); simp_all [ba_app, placeT, placeL, tagT, printB]; done))))
theorem ref13Print_any (r : RefD) : Contract Tryz.prog 67 [rD r] [.d (.sc (.string (if placeB r = true then placeT r else ⟨#[63]⟩)))] := by
 refine T.fn [] Tryz.func67 ?_
 refine x_call T.en_60 (refPlace_any r) ?_
 refine br (fun hc1 => ?y1) (fun hc1 => ?n1)
 case' y1 =>
  have hp : placeB r = false := hc1
 case' n1 =>
  have hp : placeB r = true := hc1
  have hsz := place_sizes hp
  refine br (fun hc2 => ?y2) (fun hc2 => ?n2)
  case' y2 =>
   refine br (fun hc3 => ?y3) (fun hc3 => ?n3)
   case' y3 =>
    refine x_cat ?_ (h := by ((simp only [ByteArray.size_append, lit_size, List.size_toArray, List.length_cons, List.length_nil]; omega)))
    refine x_cat ?_ (h := by ((simp only [ByteArray.size_append, lit_size, List.size_toArray, List.length_cons, List.length_nil]; omega)))
    refine x_cat ?_ (h := by ((simp only [ByteArray.size_append, lit_size, List.size_toArray, List.length_cons, List.length_nil]; omega)))
   case' n3 =>
    refine x_cat ?_ (h := by ((simp only [ByteArray.size_append, lit_size, List.size_toArray, List.length_cons, List.length_nil]; omega)))
  case' n2 =>
   refine br (fun hc4 => ?y4) (fun hc4 => ?n4)
   case' y4 =>
    refine x_cat ?_ (h := by ((simp only [ByteArray.size_append, lit_size, List.size_toArray, List.length_cons, List.length_nil]; omega)))
    refine x_cat ?_ (h := by ((simp only [ByteArray.size_append, lit_size, List.size_toArray, List.length_cons, List.length_nil]; omega)))
    refine x_cat ?_ (h := by ((simp only [ByteArray.size_append, lit_size, List.size_toArray, List.length_cons, List.length_nil]; omega)))
   case' n4 =>
    refine x_cat ?_ (h := by ((simp only [ByteArray.size_append, lit_size, List.size_toArray, List.length_cons, List.length_nil]; omega)))
 all_goals (refine x_ret ?_; simp only [fitsL, fits, C.asD, and_true] <;> (first | (rw [if_neg (by rw [hp]; decide)]; done) | (rw [if_pos hp]; first | rfl | (refine sct (ba_ext ?_); simp_all [ba_app, placeT, placeL, tagT, printB]; done))))
end Go.Vm
end
section
namespace Go.Proofs.YtmmffeldlhofiaaGreatDoor
set_option maxRecDepth 10000
open Go.RowKit Punnet.Num
theorem piece_any (s : ByteArray) (w : World) (hs : s.size ≤ maxLen) :
    Calls Tryz.prog 143 #[.string s] w fun e w' => e = .returned (.int .i64 (pieceLen s.data.toList)) ∧ Below w.heap.size w w' := by
  unfold maxLen at hs
  go_enter Tryz.func143, Tryz.ntmps143
  go_wp2
  go_loopw [3, 4] (fun e d wr => ∃ k D E : Nat, wr = w.iter s k ∧ k ≤ s.size ∧ d = .int .i64 D ∧ e = .int .i64 E ∧ D ≤ k ∧ PieceInv s.data.toList k D E) (fun _ _ wr => s.size - wr.iterPos w.heap.size)
  case atStart => exact ⟨0, 0, 0, rfl, Nat.zero_le _, rfl, rfl, Nat.le_refl _, PieceInv.start _⟩
  case round =>
    obtain ⟨k, D, E, rfl, hk, rfl, rfl, hD, hi⟩ := hrel
    have HI := Lib.hid hi
    clear hi
    have hiter : ∀ p, Below w.heap.size w (w.iter s p) := fun p => (Below.refl _ _).alloc (Nat.le_refl _) _
    by_cases hlt : k < s.size
    · have hg := get_list s k hlt
      have hll : k < s.data.toList.length := by simpa using hlt
      by_cases hm : k = 0 ∧ s[k].toNat = 45
      · obtain ⟨rfl, hm⟩ := hm
        have HS := Lib.hid (PieceInv.skip HI.out hll (by rw [hg]; exact hm))
        have hnx := fun ty => run_next_ascii (P := Tryz.prog) w s 0 ty hlt (by omega)
        have hm' : ((s[0].toNat : Int) == 45) = true := by rw [hm]; rfl
        clear hm hg
        go_wp2
        go_roundw
        case rel => exact ⟨1, D, E, rfl, by omega, rfl, rfl, by omega, HS.out⟩
        case measure => simp; omega
      · by_cases hd : 48 ≤ s[k].toNat ∧ s[k].toNat ≤ 57
        · obtain ⟨hd1, hd2⟩ := hd
          have HS := Lib.hid (PieceInv.more HI.out hll (by rw [hg]; exact hd1) (by rw [hg]; exact hd2))
          have hnx := fun ty => run_next_ascii (P := Tryz.prog) w s k ty hlt (by omega)
          generalize s[k].toNat = b at *
          have hm' : ((b : Int) == 45) = false := by simp; omega
          clear hm hg
          by_cases hk0 : k = 0
          · subst hk0
            go_wp2
            go_roundw
            case rel => exact ⟨1, D + 1, 1, rfl, by omega, by go_num, rfl, by omega, HS.out⟩
            case measure => simp; omega
          · have hk0' : ((k : Int) == 0) = false := by simp; omega
            go_wp2
            go_roundw
            case rel => exact ⟨k + 1, D + 1, k + 1, rfl, by omega, by go_num, by go_num, by omega, HS.out⟩
            case measure => simp; omega
        · have HS := Lib.hid (PieceInv.stop HI.out (fun h => by rw [hg]; exact ⟨hd, hm⟩))
          obtain ⟨r, p, hnx, hr⟩ : ∃ (r : Int) (p : Nat), (∀ ty, (Instr.next (.pointer (some ⟨w.heap.size, 0, none⟩)) true ty).run Tryz.prog (w.iter s k) = .ok (.tuple #[.bool true, .int .i64 k, .int .i32 r]) (w.iter s p)) ∧ (r < 48 ∨ 57 < r) ∧ ¬ (k = 0 ∧ r = 45) := by
            by_cases ha : s[k].toNat < 128
            · exact ⟨_, _, fun ty => run_next_ascii (P := Tryz.prog) w s k ty hlt ha, by omega, by omega⟩
            · have := decode_high s k hlt (by omega)
              exact ⟨_, _, fun ty => run_next_any (P := Tryz.prog) w s k ty hlt, by omega, by omega⟩
          obtain ⟨hr, hr2⟩ := hr
          clear hg hd hm
          have key : (k = 0 ∧ (r == 45) = false) ∨ ((k : Int) == 0) = false := by
            by_cases hk0 : k = 0
            · exact .inl ⟨hk0, by simp; omega⟩
            · exact .inr (by simp; omega)
          by_cases hD0 : D = 0
          · subst hD0
            rcases key with ⟨rfl, hr45⟩ | hk0
            all_goals
              rcases hr with hr | hr
              all_goals
                go_wp2
                go_ret
                exact ⟨ret_i64 (by rw [HS.out]; rfl), hiter _⟩
          · have hD0' : ((D : Int) == 0) = false := by simp; omega
            rcases key with ⟨rfl, hr45⟩ | hk0
            · exact absurd hD (by omega)
            rcases hr with hr | hr
            all_goals
              go_wp2
              go_ret
              exact ⟨ret_i64 (by rw [HS.out, if_neg hD0]), hiter _⟩
    · have HS := Lib.hid (PieceInv.stop HI.out (fun h => absurd h (by simp; omega)))
      have hnx := fun ty => run_next_end (P := Tryz.prog) w s k ty hlt
      by_cases hD0 : D = 0
      · subst hD0
        go_wp2
        go_ret
        exact ⟨ret_i64 (by rw [HS.out]; rfl), hiter _⟩
      · have hD0' : ((D : Int) == 0) = false := by simp; omega
        go_wp2
        go_ret
        exact ⟨ret_i64 (by rw [HS.out, if_neg hD0]), hiter _⟩
end Go.Proofs.YtmmffeldlhofiaaGreatDoor
end
section
namespace Go.Proofs.YtmmffeldlhofiaaGreatDoor
set_option maxRecDepth 10000
open Go.RowKit Punnet.Num
theorem valueOf_pos {s : ByteArray} (h0 : 0 < s.size) (hb : s[0].toNat ≠ 45) : valueOf s.data.toList = if s[0].toNat = 48 ∧ 1 < s.size then (0, 4) else if 9223372036854775807 < natOf s.data.toList then (0, 3) else ((natOf s.data.toList : Int), 0) := by
  have hl : 0 < s.data.toList.length := by simpa using h0
  have hn : neg s.data.toList = 0 := neg_of_dig hl (by rw [get_list s 0 h0]; exact hb)
  have hh : s.data.toList.head? = some s[0] := by
    rw [List.head?_eq_getElem?, List.getElem?_eq_getElem hl, get_list s 0 h0]
  have e : (s[0] = 48) ↔ s[0].toNat = 48 := by rw [← UInt8.toNat_inj]; rfl
  have hsz : s.data.toList.length = s.size := by simp
  simp only [valueOf, hn, List.drop_zero, hh, Option.some.injEq, e, hsz, Nat.zero_ne_one, false_or, if_false]
theorem valueOf_neg {s : ByteArray} (h0 : 1 < s.size) (hb : s[0].toNat = 45) : valueOf s.data.toList = if s[1].toNat = 48 then (0, 4) else if 9223372036854775808 < natOf (s.extract 1 s.size).data.toList then (0, 3) else (-(natOf (s.extract 1 s.size).data.toList : Int), 0) := by
  have hl : 1 < s.data.toList.length := by simpa using h0
  have hn : neg s.data.toList = 1 := neg_of_minus (by omega) (by rw [get_list s 0 (by omega)]; exact hb)
  have hd : (s.extract 1 s.size).data.toList = s.data.toList.drop 1 := Lib.extract_to_end s 1
  have hh : (s.data.toList.drop 1).head? = some s[1] := by
    rw [List.head?_eq_getElem?, List.getElem?_drop, List.getElem?_eq_getElem hl, get_list s 1 h0]
  have e : (s[1] = 48) ↔ s[1].toNat = 48 := by rw [← UInt8.toNat_inj]; rfl
  simp only [valueOf, hn, hd, hh, Option.some.injEq, e, true_or, and_true, if_true]
theorem neg_sum (S : Nat) (h : S ≤ 9223372036854775808) : wrap64 (wrap64 (-wrap64 (IntKind.u64.wrap ((S : Int) - 1))) - 1) = -(S : Int) := by
  simp only [wrap64, IntKind.wrap_u64]
  omega
theorem value_pos (s : ByteArray) (w : World) (hs : s.size ≤ maxLen) (h0 : 0 < s.size) (hd : ∀ k (h : k < s.size), 48 ≤ s[k].toNat ∧ s[k].toNat ≤ 57) :
    Calls Tryz.prog 144 #[.string s] w fun e w' => e = .returned (.tuple #[.int .i64 (valueOf s.data.toList).1, .int .i64 (valueOf s.data.toList).2]) ∧ Below w.heap.size w w' := by
  unfold maxLen at hs
  have H0 := hd 0 h0
  have HV := Lib.hid (valueOf_pos h0 (by omega))
  have b45 : ((s[0].toNat : Int) == 45) = false := by simp; omega
  have HD := Lib.hid hd
  clear hd
  have h0' : (0 : Int) < s.size := by omega
  by_cases hz : s[0].toNat = 48 ∧ 1 < s.size
  · have HV' := Lib.hid (HV.out.trans (if_pos hz))
    obtain ⟨hz, h1⟩ := hz
    have b48 : ((s[0].toNat : Int) == 48) = true := by simp; omega
    have h1' : (1 : Int) < s.size := by omega
    clear hz
    go_enter Tryz.func144, Tryz.ntmps144
    go_wp2
    go_ret2
    exact ⟨ret2_i64 (by rw [HV'.out]), Below.refl _ _⟩
  · have HV' := Lib.hid (HV.out.trans (if_neg hz))
    have key : ((s[0].toNat : Int) == 48) = false ∨ (((s[0].toNat : Int) == 48) = true ∧ (s.size : Int) ≤ 1) := by
      by_cases e : s[0].toNat = 48
      · exact .inr ⟨by simp; omega, by omega⟩
      · exact .inl (by simp; omega)
    clear hz HV
    have hiter : ∀ p, Below w.heap.size w (w.iter s p) := fun p => (Below.refl _ _).alloc (Nat.le_refl _) _
    rcases key with b48 | ⟨b48, h1⟩
    all_goals
      go_enter Tryz.func144, Tryz.ntmps144
      go_wp2
      go_loopw [7] (fun v wr => ∃ k S : Nat, wr = w.iter s k ∧ k ≤ s.size ∧ v = .int .u64 S ∧ S ≤ 9223372036854775807 ∧ S = natOf (s.data.toList.take k)) (fun _ wr => s.size - wr.iterPos w.heap.size)
      case atStart => exact ⟨0, 0, rfl, Nat.zero_le _, rfl, by omega, rfl⟩
      case round =>
        obtain ⟨k, S, rfl, hk, rfl, hS, hn⟩ := hrel
        by_cases hlt : k < s.size
        · have hg := get_list s k hlt
          have hll : k < s.data.toList.length := by simpa using hlt
          have HT := Lib.hid (natOf_take_succ hll)
          have hdk := HD.out k hlt
          have hnx := fun ty => run_next_ascii (P := Tryz.prog) w s k ty hlt (by omega)
          rw [hg, ← hn] at HT
          have HN := Lib.hid hn
          clear hg hn
          generalize s[k].toNat = b at *
          by_cases hov : 10 * S + (b - 48) ≤ 9223372036854775807
          · have hov' : (S : Int) ≤ (9223372036854775807 - ((b : Int) - 48)) / 10 := by omega
            go_wp2
            go_roundw
            case rel => exact ⟨k + 1, 10 * S + (b - 48), rfl, by omega, by go_num, by omega, HT.out.symm⟩
            case measure => simp; omega
          · have hov' : (9223372036854775807 - ((b : Int) - 48)) / 10 < (S : Int) := by omega
            have HV2 := Lib.hid (HV'.out.trans (if_pos (by have := natOf_take_le s.data.toList (k + 1); have := HT.out; omega)))
            go_wp2
            go_ret2
            exact ⟨ret2_i64 (by rw [HV2.out]), hiter _⟩
        · have HN := Lib.hid hn
          have HV2 := Lib.hid (HV'.out.trans (if_neg (by rw [hn] at hS; rw [List.take_of_length_le (by simp; omega)] at hS; omega)))
          clear hn
          have hnx := fun ty => run_next_end (P := Tryz.prog) w s k ty hlt
          go_wp2
          go_ret2
          exact ⟨ret2_i64 (by rw [HV2.out, HN.out, List.take_of_length_le (by simp; omega)]), hiter _⟩
theorem value_neg (s : ByteArray) (w : World) (hs : s.size ≤ maxLen) (h0 : 1 < s.size) (hb : s[0].toNat = 45) (hd : ∀ k (h : k < s.size), 0 < k → 48 ≤ s[k].toNat ∧ s[k].toNat ≤ 57) :
    Calls Tryz.prog 144 #[.string s] w fun e w' => e = .returned (.tuple #[.int .i64 (valueOf s.data.toList).1, .int .i64 (valueOf s.data.toList).2]) ∧ Below w.heap.size w w' := by
  unfold maxLen at hs
  have hv := valueOf_neg h0 hb
  have b45 : ((s[0].toNat : Int) == 45) = true := by simp; omega
  obtain ⟨t, ht⟩ : ∃ t, s.extract 1 s.size = t := ⟨_, rfl⟩
  have hts : t.size = s.size - 1 := by rw [← ht]; simp
  have htg : ∀ k (h : k < t.size), t[k] = s[1 + k] := by subst ht; intro k h; rw [ByteArray.getElem_extract]
  rw [ht] at hv
  have t0 : 0 < t.size := by omega
  rw [← htg 0 t0] at hv
  have HV := Lib.hid hv
  have hdt : ∀ k (h : k < t.size), 48 ≤ t[k].toNat ∧ t[k].toNat ≤ 57 := fun k h => by rw [htg k h]; exact hd _ _ (by omega)
  have HD := Lib.hid hdt
  have h0' : (0 : Int) < s.size := by omega
  have h1' : (1 : Int) ≤ s.size := by omega
  have t0' : (0 : Int) < t.size := by omega
  have tm : t.size ≤ 9223372036854775807 := by omega
  clear hd hb hv hts htg hdt
  by_cases hz : t[0].toNat = 48
  · have HV' := Lib.hid (HV.out.trans (if_pos hz))
    have b48 : ((t[0].toNat : Int) == 48) = true := by simp; omega
    clear hz
    go_enter Tryz.func144, Tryz.ntmps144
    go_wp2
    go_ret2
    exact ⟨ret2_i64 (by rw [HV'.out]), Below.refl _ _⟩
  · have HV' := Lib.hid (HV.out.trans (if_neg hz))
    have b48 : ((t[0].toNat : Int) == 48) = false := by simp; omega
    clear hz HV
    have hiter : ∀ p, Below w.heap.size w (w.iter t p) := fun p => (Below.refl _ _).alloc (Nat.le_refl _) _
    go_enter Tryz.func144, Tryz.ntmps144
    go_wp2
    go_loopw [7] (fun v wr => ∃ k S : Nat, wr = w.iter t k ∧ k ≤ t.size ∧ v = .int .u64 S ∧ S ≤ 9223372036854775808 ∧ S = natOf (t.data.toList.take k)) (fun _ wr => t.size - wr.iterPos w.heap.size)
    case atStart => exact ⟨0, 0, rfl, Nat.zero_le _, rfl, by omega, rfl⟩
    case round =>
      obtain ⟨k, S, rfl, hk, rfl, hS, hn⟩ := hrel
      by_cases hlt : k < t.size
      · have hg := get_list t k hlt
        have hll : k < t.data.toList.length := by simpa using hlt
        have HT := Lib.hid (natOf_take_succ hll)
        have hdk := HD.out k hlt
        have hnx := fun ty => run_next_ascii (P := Tryz.prog) w t k ty hlt (by omega)
        rw [hg, ← hn] at HT
        have HN := Lib.hid hn
        clear hg hn ht
        generalize t[k].toNat = b at *
        by_cases hov : 10 * S + (b - 48) ≤ 9223372036854775808
        · have hov' : (S : Int) ≤ (9223372036854775808 - ((b : Int) - 48)) / 10 := by omega
          go_wp2
          go_roundw
          case rel => exact ⟨k + 1, 10 * S + (b - 48), rfl, by omega, by go_num, by omega, HT.out.symm⟩
          case measure => simp; omega
        · have hov' : (9223372036854775808 - ((b : Int) - 48)) / 10 < (S : Int) := by omega
          have HV2 := Lib.hid (HV'.out.trans (if_pos (by have := natOf_take_le t.data.toList (k + 1); have := HT.out; omega)))
          go_wp2
          go_ret2
          exact ⟨ret2_i64 (by rw [HV2.out]), hiter _⟩
      · have HN := Lib.hid hn
        have HV2 := Lib.hid (HV'.out.trans (if_neg (by rw [hn] at hS; rw [List.take_of_length_le (by simp; omega)] at hS; omega)))
        clear hn ht
        have hnx := fun ty => run_next_end (P := Tryz.prog) w t k ty hlt
        go_wp2
        go_ret2
        refine ⟨ret2_i64 ?_, hiter _⟩
        rw [HV2.out, ← List.take_of_length_le (l := t.data.toList) (i := k) (by simp; omega), ← HN.out]
        rw [neg_sum S hS]
theorem piece_whole {s : ByteArray} (h0 : 0 < s.size) (hp : pieceLen s.data.toList = s.size) :
    (s[0].toNat ≠ 45 ∧ ∀ k (h : k < s.size), 48 ≤ s[k].toNat ∧ s[k].toNat ≤ 57) ∨ (s[0].toNat = 45 ∧ 1 < s.size ∧ ∀ k (h : k < s.size), 0 < k → 48 ≤ s[k].toNat ∧ s[k].toNat ≤ 57) := by
  have hl : 0 < s.data.toList.length := by simpa using h0
  have hall : ∀ k (h : k < s.size), neg s.data.toList ≤ k → 48 ≤ s[k].toNat ∧ s[k].toNat ≤ 57 := by
    intro k h hk
    have := piece_digs (l := s.data.toList) (by simpa using hp) hl k (by simpa using h) hk
    rw [get_list s k h] at this
    simpa [dig] using this
  by_cases hb : s[0].toNat = 45
  · have hn : neg s.data.toList = 1 := neg_of_minus hl (by rw [get_list s 0 h0]; exact hb)
    refine .inr ⟨hb, ?_, fun k h hk => hall k h (by omega)⟩
    have := piece_gt (l := s.data.toList) (by simpa using hp) hl
    rw [hn] at this
    simpa using this
  · have hn : neg s.data.toList = 0 := neg_of_dig hl (by rw [get_list s 0 h0]; exact hb)
    exact .inl ⟨hb, fun k h => hall k h (by omega)⟩
theorem value_any (s : ByteArray) (w : World) (hs : s.size ≤ maxLen) (h0 : 0 < s.size) (hp : pieceLen s.data.toList = s.size) :
    Calls Tryz.prog 144 #[.string s] w fun e w' => e = .returned (.tuple #[.int .i64 (valueOf s.data.toList).1, .int .i64 (valueOf s.data.toList).2]) ∧ Below w.heap.size w w' := by
  rcases piece_whole h0 hp with ⟨_, hd⟩ | ⟨hb, h1, hd⟩
  · exact value_pos s w hs h0 hd
  · exact value_neg s w hs h1 hb hd
end Go.Proofs.YtmmffeldlhofiaaGreatDoor
end
section
namespace Go.Proofs.YtmmffeldlhofiaaGreatDoor
set_option maxRecDepth 10000
open Go.RowKit Punnet.Num
set_option maxHeartbeats 400000 in
theorem read_any (s : ByteArray) (w : World) (hs : s.size ≤ maxLen) :
    Calls Tryz.prog 116 #[.string s] w fun e w' => e = .returned (.tuple #[.int .i64 (readOf s.data.toList).1, .int .i64 (readOf s.data.toList).2]) ∧ Below w.heap.size w w' := by
  have hlen : s.data.toList.length = s.size := by simp
  have HP := Lib.hid (piece_any s w hs)
  have HR := Lib.hid (show readOf s.data.toList = if pieceLen s.data.toList = 0 ∨ pieceLen s.data.toList ≠ s.size then (0, 4) else valueOf s.data.toList by rw [readOf, hlen])
  have HA := Lib.hid (fun w1 => value_any s w1 hs)
  have hm : s.size ≤ 9223372036854775807 := by unfold maxLen at hs; omega
  have hle : pieceLen s.data.toList ≤ s.size := by rw [← hlen]; exact pieceLen_le _
  clear hlen hs
  generalize readOf s.data.toList = R at *
  generalize hv : valueOf s.data.toList = v at *
  have HV := Lib.hid hv
  clear hv
  generalize hp : pieceLen s.data.toList = p at *
  have HPE := Lib.hid hp
  clear hp
  by_cases h0 : p = 0
  · have HR' := Lib.hid (HR.out.trans (if_pos (.inl h0)))
    subst h0
    go_enter Tryz.func116, Tryz.ntmps116
    go_wp2_with (go_at_call 143; refine HP.out.mono ?_; rintro e w1 ⟨rfl, hb1⟩)
    go_ret2
    exact ⟨ret2_i64 (by rw [HR'.out]), hb1⟩
  · have b0 : ((p : Int) == 0) = false := by simp; omega
    by_cases h1 : p = s.size
    · have HR' := Lib.hid (HR.out.trans (if_neg (by omega)))
      have b1 : ((p : Int) != (s.size : Int)) = false := by simp; omega
      have H0 : 0 < s.size := by omega
      have HA' := Lib.hid (fun w1 => HA.out w1 H0 h1)
      clear h1 HA
      go_enter Tryz.func116, Tryz.ntmps116
      go_wp2_with (first | (go_at_call 143; refine HP.out.mono ?_; rintro e w1 ⟨rfl, hb1⟩) | (go_at_call 144; refine (HA'.out _).mono ?_; rintro e w2 ⟨rfl, hb2⟩))
      go_ret2
      exact ⟨ret2_i64 (by rw [HR'.out]), below_two hb1 hb2⟩
    · have HR' := Lib.hid (HR.out.trans (if_pos (.inr h1)))
      have b1 : ((p : Int) != (s.size : Int)) = true := by simp; omega
      clear h1
      go_enter Tryz.func116, Tryz.ntmps116
      go_wp2_with (go_at_call 143; refine HP.out.mono ?_; rintro e w1 ⟨rfl, hb1⟩)
      go_ret2
      exact ⟨ret2_i64 (by rw [HR'.out]), hb1⟩
end Go.Proofs.YtmmffeldlhofiaaGreatDoor
end
section
namespace Go.Proofs.YtmmffeldlhofiaaGreatDoor
set_option maxRecDepth 10000
open Go.RowKit Punnet.Num
def PrintJ (n : Int) (m : Nat) (w : World) (a' : Act) (w' : World) : Prop :=
  ∃ (left k : Nat) (tail : List UInt8) (A : Array Value) (u6 u7 u8 u9 u10 u11 u12 u13 u14 u15 u16 u17 u18 u19 u20 u21 u22 u23 : Value),
    a' = { tmps := #[.int .i64 n, undef, .string ⟨#[]⟩, .pointer (some ⟨w.heap.size, 0, none⟩), .int .i64 ((k : Int) + 1 + 1), .int .u64 (left : Int), u6, u7, u8, u9, u10, u11, u12, u13, u14, u15, u16, u17, u18, u19, u20, u21, u22, u23, undef, undef, undef, undef, undef, undef, undef, undef, undef], defers := [] } ∧
    w' = w.alloc (.cells A 173) ∧ A.size = 20 ∧ k + 2 + tail.length = 20 ∧ (∀ j (h : j < tail.length), A[k + 2 + j]? = some (.int .u8 (tail[j].toNat : Int))) ∧
    left < 10 ^ (k + 1) ∧ left < 18446744073709551616 ∧ digs m = digs left ++ tail
theorem tail_step {A : Array Value} {tail : List UInt8} {k : Nat} (hA : A.size = 20) (hk : k + 1 + tail.length = 20) (hc : ∀ j (h : j < tail.length), A[k + 1 + j]? = some (.int .u8 (tail[j].toNat : Int)))
    (d : UInt8) (n : Int) (hn : n = d.toNat) :
    ∀ j (h : j < (d :: tail).length), (A.setIfInBounds k (.int .u8 n))[k + j]? = some (.int .u8 ((d :: tail)[j].toNat : Int)) := by
  intro j h
  cases j with
  | zero =>
    have : k < A.size := by omega
    simp [hn, this]
  | succ j =>
    have h' : j < tail.length := by simpa using h
    rw [Array.getElem?_setIfInBounds, if_neg (by omega), show k + (j + 1) = k + 1 + j by omega, hc j h']
    rfl
theorem digit_nat (m : Nat) : (48 + (m : Int) % 10) = ((UInt8.ofNat (48 + m % 10)).toNat : Int) := by
  rw [UInt8.toNat_ofNat']
  omega
theorem slice_text (b : Nat) (W : World) (z : Int) (k : Nat) (hz : z = k) (hk : k < 20) (n : Nat) (hn : n = 20 - k) :
    (Instr.sliceAt 173 (.pointer (some ⟨b, 0, none⟩)) (some (.int .i64 z)) none none).run Tryz.prog W = .ok (.slice (some ⟨b, k, none⟩) n n) W := by
  subst hz hn
  have h : Tryz.prog.arrayLen 173 = 20 := by kernel_rfl
  have hs : ∀ w, (Go.sizeOf (Tryz.prog.elem 173)).run Tryz.prog w = .ok 1 w := fun _ => by kernel_rfl
  have ht : Tryz.prog.underlying 173 = some (.array (Tryz.prog.arrayLen 173) (Tryz.prog.elem 173)) := by kernel_rfl
  rw [run_sliceAt_array_l W _ _ ht .i64 k (by omega) (by omega), hs, h]
  have e : (⟨b, 0, none⟩ : Addr).add k = ⟨b, k, none⟩ := by unfold Addr.add; split <;> simp_all
  simp only [Result.andThen_ok, slicedAt, Int.toNat_natCast, Nat.mul_one, e]
  rw [if_neg (by omega)]
theorem conv_text (w : World) (A : Array Value) (l : List UInt8) (k n : Nat) (hn : n = l.length) (hc : ∀ j (h : j < l.length), A[k + j]? = some (.int .u8 (l[j].toNat : Int))) :
    (convert 133 9 (.slice (some ⟨w.heap.size, k, none⟩) n n)).run Tryz.prog (w.alloc (.cells A 173)) = .ok (.string ⟨l.toArray⟩) (w.alloc (.cells A 173)) := by
  subst hn
  refine run_convert_bytes_back _ 133 9 5 _ _ l Tryz.underlying133 Tryz.underlying5 Tryz.underlying9 fun j hj => ?_
  have e : (⟨w.heap.size, k, none⟩ : Addr).add j = ⟨w.heap.size, k + j, none⟩ := by unfold Addr.add; split <;> simp_all
  rw [← hc j hj, e, World.cell?_alloc_new]
theorem print_next {n : Int} {m left k : Nat} {tail : List UInt8} {A : Array Value} (w : World) (hl64 : left < 18446744073709551616) (h10 : ¬ left < 10) (hA : A.size = 20) (hk : k + 2 + tail.length = 20)
    (hc : ∀ j (h : j < (UInt8.ofNat (48 + left % 10) :: tail).length), (A.setIfInBounds (k + 1) (.int .u8 (48 + (left : Int) % 10)))[k + 1 + j]? = some (.int .u8 ((UInt8.ofNat (48 + left % 10) :: tail)[j].toNat : Int)))
    (hl : left < 10 ^ (k + 1)) (hd : digs m = digs left ++ tail) {u6 u7 u8 u9 u10 u11 u12 u13 u14 u15 u16 u17 u18 u19 u20 u21 u22 u23 : Value} :
    PrintJ n m w { tmps := #[.int .i64 n, undef, .string ⟨#[]⟩, .pointer (some ⟨w.heap.size, 0, none⟩), .int .i64 ((k : Int) + 1), .int .u64 ((left : Int) / 10), u6, u7, u8, u9, u10, u11, u12, u13, u14, u15, u16, u17, u18, u19, u20, u21, u22, u23, undef, undef, undef, undef, undef, undef, undef, undef, undef], defers := [] } (w.alloc (.cells (A.setIfInBounds (k + 1) (.int .u8 (48 + (left : Int) % 10))) 173)) := by
  have hk1 : 1 ≤ k := by
    rcases Nat.eq_zero_or_pos k with rfl | h
    · simp at hl; omega
    · exact h
  obtain ⟨j, rfl⟩ : ∃ j, k = j + 1 := ⟨k - 1, by omega⟩
  refine ⟨left / 10, j, UInt8.ofNat (48 + left % 10) :: tail, _, u6, u7, u8, u9, u10, u11, u12, u13, u14, u15, u16, u17, u18, u19, u20, u21, u22, u23, rfl, rfl, by simpa using hA, by simp; omega, hc, ?_, by omega, ?_⟩
  · rw [Nat.div_lt_iff_lt_mul (by omega)]; exact hl
  · rw [hd, digs_step h10]; simp
set_option maxHeartbeats 400000 in
theorem print_neg (n : Int) (w : World) (h0 : n < 0) (h1 : -9223372036854775808 ≤ n) :
    Calls Tryz.prog 91 #[.int .i64 n] w fun e w' => e = .returned (.string ⟨(print n).toArray⟩) ∧ Below w.heap.size w w' := by
  have hwr : IntKind.u64.wrap (-IntKind.u64.wrap n) = (n.natAbs : Int) := by simp only [IntKind.wrap_u64]; omega
  go_enter Tryz.func91, Tryz.ntmps91
  go_wp2
  refine wp_scope_falls 0 (PrintJ n n.natAbs w) (fun a' _ => (intOf (a'.tmps.getD 5 undef)).toNat) rfl ?_ ?_
  · rintro a' w' ⟨left, k, tail, A, u6, u7, u8, u9, u10, u11, u12, u13, u14, u15, u16, u17, u18, u19, u20, u21, u22, u23, rfl, rfl, hA, hk, hc, hl, hl64, hd⟩
    clear hwr
    have hk20 : k < 19 := by omega
    have hts := tail_step (k := k + 1) hA hk hc (UInt8.ofNat (48 + left % 10)) _ (digit_nat left)
    obtain ⟨v0, hv0⟩ : ∃ v, A[k + 1]? = some v := ⟨_, Array.getElem?_eq_getElem (by omega)⟩
    by_cases h10 : left < 10
    · have h10' : (left : Int) / 10 = 0 := by omega
      obtain ⟨v1, hv1⟩ : ∃ v, (A.setIfInBounds (k + 1) (Value.int IntKind.u8 (48 + ↑left % 10)))[k]? = some v := ⟨_, Array.getElem?_eq_getElem (by simp; omega)⟩
      have hts2 := tail_step (k := k) (A := A.setIfInBounds (k + 1) (Value.int IntKind.u8 (48 + ↑left % 10))) (by simp [hA]) (by simp; omega) hts 45 45 rfl
      obtain ⟨N, hN⟩ : ∃ N, N = 20 - k := ⟨_, rfl⟩
      have hsl := fun b W => slice_text b W k k rfl (by omega) N hN
      have hcv := conv_text w _ _ k N (by simp; omega) hts2
      clear hN
      have HD := Lib.hid (show print n = 45 :: UInt8.ofNat (48 + left % 10) :: tail by
        rw [print, if_pos h0, hd, digs_small h10, Nat.mod_eq_of_lt h10]; rfl)
      clear hA hk hc hl hd hts hts2
      generalize (45 :: UInt8.ofNat (48 + left % 10) :: tail) = L at hcv HD
      go_wp2
      simp only [Exit.jump]
      go_ret
      refine ⟨by rw [HD.out]; rfl, (Below.refl _ _).alloc (Nat.le_refl _) _⟩
    · have h10' : 0 < (left : Int) / 10 := by omega
      have HA := Lib.hid hA
      have HK := Lib.hid hk
      have HC := Lib.hid hts
      have HLE := Lib.hid hl
      have HD := Lib.hid hd
      clear hA hk hc hl hd hts
      go_wp2
      go_step3
      refine ⟨rfl, ?_, ?_⟩
      · exact print_next w (by omega) h10 HA.out HK.out HC.out HLE.out HD.out
      · simp [intOf]
        omega
  intro HL
  go_wp2
  go_step3
  refine (‹∀ (a : Act) (w : World), Code.wp _ _ _ a w → _› : _) _ _ (HL.out _ _ ?_)
  have hdv : (n.natAbs) < 10 ^ 19 := by
    have : n.natAbs ≤ 9223372036854775808 := by omega
    exact Nat.lt_of_le_of_lt this (by decide)
  exact ⟨n.natAbs, 18, [], _, _, _, _, _, _, _, _, _, _, _, _, _, _, _, _, _, _, _, rfl, rfl, rfl, rfl, fun j h => absurd h (by simp), hdv, by omega, by simp⟩
set_option maxHeartbeats 400000 in
theorem print_pos (n : Int) (w : World) (h0 : ¬ n < 0) (h1 : n ≤ 9223372036854775807) :
    Calls Tryz.prog 91 #[.int .i64 n] w fun e w' => e = .returned (.string ⟨(print n).toArray⟩) ∧ Below w.heap.size w w' := by
  have hwr : IntKind.u64.wrap n = (n.natAbs : Int) := by simp only [IntKind.wrap_u64]; omega
  go_enter Tryz.func91, Tryz.ntmps91
  go_wp2
  refine wp_scope_falls 0 (PrintJ n n.natAbs w) (fun a' _ => (intOf (a'.tmps.getD 5 undef)).toNat) rfl ?_ ?_
  · rintro a' w' ⟨left, k, tail, A, u6, u7, u8, u9, u10, u11, u12, u13, u14, u15, u16, u17, u18, u19, u20, u21, u22, u23, rfl, rfl, hA, hk, hc, hl, hl64, hd⟩
    clear hwr
    have hk20 : k < 19 := by omega
    have hts := tail_step (k := k + 1) hA hk hc (UInt8.ofNat (48 + left % 10)) _ (digit_nat left)
    obtain ⟨v0, hv0⟩ : ∃ v, A[k + 1]? = some v := ⟨_, Array.getElem?_eq_getElem (by omega)⟩
    by_cases h10 : left < 10
    · have h10' : (left : Int) / 10 = 0 := by omega
      obtain ⟨N, hN⟩ : ∃ N, N = 20 - (k + 1) := ⟨_, rfl⟩
      have hsl := fun b W => slice_text b W ((k : Int) + 1) (k + 1) rfl (by omega) N hN
      have hcv := conv_text w _ _ (k + 1) N (by simp; omega) hts
      clear hN
      have HD := Lib.hid (show print n = UInt8.ofNat (48 + left % 10) :: tail by
        rw [print, if_neg (by omega), hd, digs_small h10, Nat.mod_eq_of_lt h10]; rfl)
      clear hA hk hc hl hd hts
      generalize (UInt8.ofNat (48 + left % 10) :: tail) = L at hcv HD
      go_wp2
      simp only [Exit.jump]
      go_ret
      refine ⟨by rw [HD.out]; rfl, (Below.refl _ _).alloc (Nat.le_refl _) _⟩
    · have h10' : 0 < (left : Int) / 10 := by omega
      have HA := Lib.hid hA
      have HK := Lib.hid hk
      have HC := Lib.hid hts
      have HLE := Lib.hid hl
      have HD := Lib.hid hd
      clear hA hk hc hl hd hts
      go_wp2
      go_step3
      refine ⟨rfl, ?_, ?_⟩
      · exact print_next w (by omega) h10 HA.out HK.out HC.out HLE.out HD.out
      · simp [intOf]
        omega
  intro HL
  go_wp2
  go_step3
  refine (‹∀ (a : Act) (w : World), Code.wp _ _ _ a w → _› : _) _ _ (HL.out _ _ ?_)
  have hdv : (n.natAbs) < 10 ^ 19 := by
    have : n.natAbs ≤ 9223372036854775808 := by omega
    exact Nat.lt_of_le_of_lt this (by decide)
  exact ⟨n.natAbs, 18, [], _, _, _, _, _, _, _, _, _, _, _, _, _, _, _, _, _, _, _, rfl, rfl, rfl, rfl, fun j h => absurd h (by simp), hdv, by omega, by simp⟩
theorem print_any (n : Int) (w : World) (h0 : -9223372036854775808 ≤ n) (h1 : n ≤ 9223372036854775807) :
    Calls Tryz.prog 91 #[.int .i64 n] w fun e w' => e = .returned (.string (printB n)) ∧ Below w.heap.size w w' := by
  by_cases h : n < 0
  · exact print_neg n w h h0
  · exact print_pos n w h h1
end Go.Proofs.YtmmffeldlhofiaaGreatDoor
end
section
namespace Go.Proofs.YtmmffeldlhofiaaGreatDoor
set_option maxRecDepth 10000
open Go.RowKit Punnet.Num
theorem conv_one (W : World) (d : UInt8) (z : Int) (hz : z = d.toNat) (t : TypeId) :
    (convert 133 9 (.slice (some ⟨W.heap.size, 0, none⟩) 1 1)).run Tryz.prog (W.alloc (.cells #[.int .u8 z] t)) = .ok (.string ⟨#[d]⟩) (W.alloc (.cells #[.int .u8 z] t)) := by
  subst hz
  refine run_convert_bytes_back _ 133 9 5 _ _ [d] Tryz.underlying133 Tryz.underlying5 Tryz.underlying9 fun j hj => ?_
  obtain rfl : j = 0 := by simpa using hj
  exact World.cell?_alloc_new _ _ _ _
theorem digit_nat' (m : Nat) : (48 + (m : Int) % 10) = ((UInt8.ofNat (48 + m % 10)).toNat : Int) := by
  rw [UInt8.toNat_ofNat']
  omega
theorem abs_lt {n : Int} (h0 : -9223372036854775808 ≤ n) (h1 : n ≤ 9223372036854775807) : n.natAbs < 10 ^ 19 := by
  have : n.natAbs ≤ 9223372036854775808 := by omega
  exact Nat.lt_of_le_of_lt this (by decide)
theorem refPrint_zero (w : World) : Calls Tryz.prog 68 #[.int .i64 0] w fun e w' => e = .returned (.string (printB 0)) ∧ Below w.heap.size w w' := by
  have HZ := Lib.hid (show printB 0 = ⟨#[48]⟩ by rw [printB, print]; simp [digs_small])
  go_enter Tryz.func68, Tryz.ntmps68
  go_wp2
  go_ret
  exact ⟨by rw [HZ.out]; rfl, Below.refl _ _⟩
set_option maxHeartbeats 400000 in
theorem refPrint_pos (n : Int) (w : World) (h0 : 0 < n) (h1 : n ≤ 9223372036854775807) :
    Calls Tryz.prog 68 #[.int .i64 n] w fun e w' => e = .returned (.string (printB n)) ∧ Below w.heap.size w w' := by
  have hn0 : (n == 0) = false := by simp; omega
  go_enter Tryz.func68, Tryz.ntmps68
  go_wp2
  go_loopw [3, 4] (fun s l wr => ∃ (L : Nat) (tail : List UInt8), l = .int .i64 L ∧ s = .string ⟨tail.toArray⟩ ∧ L ≤ 9223372036854775807 ∧ LeftOf n.natAbs L tail ∧ Below w.heap.size w wr) (fun _ l _ => (intOf l).toNat)
  case atStart => exact ⟨n.natAbs, [], by rw [show ((n.natAbs : Nat) : Int) = n by omega], rfl, by omega, LeftOf.start (by omega), Below.refl _ _⟩
  case round =>
    obtain ⟨L, tail, rfl, rfl, hL, hd, hb⟩ := hrel
    have htl := hd.len (abs_lt (by omega) h1) (by omega)
    have htl' : ¬ 9223372036854775807 < 1 + tail.length := by omega
    by_cases hz : L = 0
    · subst hz
      have HD := Lib.hid hd.done
      clear hd
      go_wp2
      go_ret
      refine ⟨?_, hb⟩
      rw [printB, print, if_neg (by omega), HD.out]
      rfl
    · have hz' : ((L : Int) != 0) = true := by simp; omega
      have hcv := fun W t => conv_one W (UInt8.ofNat (48 + L % 10)) (48 + (L : Int) % 10) (digit_nat' L) t
      have HD := Lib.hid (hd.next hz)
      have hm : 0 ≤ (L : Int) % 10 := by omega
      clear hd
      generalize UInt8.ofNat (48 + L % 10) = d at *
      go_wp2
      go_roundw
      case rel => exact ⟨L / 10, d :: tail, by go_num, rfl, by omega, HD.out, hb.alloc hb.size _⟩
      case measure => simp [intOf]; omega
theorem neg_digit (L : Nat) (h : L ≤ 9223372036854775808) : wrap64 ((-(L : Int)).tmod 10) = -((L % 10 : Nat) : Int) := by
  rw [Int.neg_tmod, show (L : Int).tmod 10 = ((L % 10 : Nat) : Int) from rfl]
  simp only [wrap64]
  omega
theorem neg_rest (L : Nat) (h : L ≤ 9223372036854775808) : wrap64 ((-(L : Int)).tdiv 10) = -((L / 10 : Nat) : Int) := by
  rw [Int.neg_tdiv, show (L : Int).tdiv 10 = ((L / 10 : Nat) : Int) from rfl]
  simp only [wrap64]
  omega
set_option maxHeartbeats 400000 in
theorem refPrint_neg (n : Int) (w : World) (h0 : n < 0) (h1 : -9223372036854775808 ≤ n) :
    Calls Tryz.prog 68 #[.int .i64 n] w fun e w' => e = .returned (.string (printB n)) ∧ Below w.heap.size w w' := by
  have hn0 : (n == 0) = false := by simp; omega
  go_enter Tryz.func68, Tryz.ntmps68
  go_wp2
  go_loopw [3, 4] (fun s l wr => ∃ (L : Nat) (tail : List UInt8), l = .int .i64 (-(L : Int)) ∧ s = .string ⟨tail.toArray⟩ ∧ L ≤ 9223372036854775808 ∧ LeftOf n.natAbs L tail ∧ Below w.heap.size w wr) (fun _ l _ => (-intOf l).toNat)
  case atStart => exact ⟨n.natAbs, [], by rw [show -((n.natAbs : Nat) : Int) = n by omega], rfl, by omega, LeftOf.start (by omega), Below.refl _ _⟩
  case round =>
    obtain ⟨L, tail, rfl, rfl, hL, hd, hb⟩ := hrel
    have htl := hd.len (abs_lt h1 (by omega)) (by omega)
    have htl' : ¬ 9223372036854775807 < 1 + tail.length := by omega
    by_cases hz : L = 0
    · subst hz
      have HD := Lib.hid hd.done
      clear hd
      go_wp2
      go_ret
      refine ⟨?_, hb⟩
      rw [printB, print, if_pos (by omega), HD.out]
      rfl
    · have hz' : (-(L : Int) != 0) = true := by simp; omega
      have hcv := fun W t => conv_one W (UInt8.ofNat (48 + L % 10)) (48 + (L : Int) % 10) (digit_nat' L) t
      have hcv2 : (L : Int) % 10 ≤ 0 → ∀ (W : World) (t : TypeId), (convert 133 9 (.slice (some ⟨W.heap.size, 0, none⟩) 1 1)).run Tryz.prog (W.alloc (.cells #[.int .u8 (48 + -((L : Int) % 10))] t)) = .ok (.string ⟨#[UInt8.ofNat (48 + L % 10)]⟩) (W.alloc (.cells #[.int .u8 (48 + -((L : Int) % 10))] t)) :=
        fun h W t => conv_one W (UInt8.ofNat (48 + L % 10)) (48 + -((L : Int) % 10)) (by rw [← digit_nat']; omega) t
      have HD := Lib.hid (hd.next hz)
      have hm : 0 ≤ (L : Int) % 10 := by omega
      have e1 := neg_digit L hL
      have e2 := neg_rest L hL
      clear hd
      generalize UInt8.ofNat (48 + L % 10) = d at *
      by_cases h10 : 0 < (L : Int) % 10
      · clear hcv2
        go_wp2
        go_roundw
        case rel => exact ⟨L / 10, d :: tail, by go_num, rfl, by omega, HD.out, hb.alloc hb.size _⟩
        case measure => simp [intOf]; omega
      · have hcv2 := hcv2 (by omega)
        clear hcv
        go_wp2
        go_roundw
        case rel => exact ⟨L / 10, d :: tail, by go_num, rfl, by omega, HD.out, hb.alloc hb.size _⟩
        case measure => simp [intOf]; omega
theorem refPrint_any (n : Int) (w : World) (h0 : -9223372036854775808 ≤ n) (h1 : n ≤ 9223372036854775807) :
    Calls Tryz.prog 68 #[.int .i64 n] w fun e w' => e = .returned (.string (printB n)) ∧ Below w.heap.size w w' := by
  rcases Int.lt_trichotomy n 0 with h | rfl | h
  · exact refPrint_neg n w h h0
  · exact refPrint_zero w
  · exact refPrint_pos n w h h1
theorem all_dig (s : ByteArray) (h : ∀ j (hj : j < s.size), 48 ≤ s[j].toNat ∧ s[j].toNat ≤ 57) : s.data.toList.all dig = true := by
  rw [List.all_eq_true]
  intro b hb
  obtain ⟨j, hj, rfl⟩ := List.getElem_of_mem hb
  rw [get_list s j (by simpa using hj), dig, decide_eq_true_iff]
  exact h j _
theorem not_all_dig (s : ByteArray) (j : Nat) (hj : j < s.size) (h : ¬ (48 ≤ s[j].toNat ∧ s[j].toNat ≤ 57)) : s.data.toList.all dig = false := by
  rw [Bool.eq_false_iff]
  intro ha
  rw [List.all_eq_true] at ha
  have := ha (s.data.toList[j]'(by simpa using hj)) (List.getElem_mem _)
  rw [get_list s j hj, dig, decide_eq_true_iff] at this
  exact h this
theorem wordOf_pos {s : ByteArray} (h0 : 0 < s.size) (hb : s[0].toNat ≠ 45) : wordOf s.data.toList = (s.data.toList.all dig && !(decide (s[0].toNat = 48) && !(s.toList == [48]))) := by
  have hl : 0 < s.data.toList.length := by simpa using h0
  have hn : neg s.data.toList = 0 := neg_of_dig hl (by rw [get_list s 0 h0]; exact hb)
  have hh : s.data.toList.head? = some s[0] := by
    rw [List.head?_eq_getElem?, List.getElem?_eq_getElem hl, get_list s 0 h0]
  have e : (s[0] = 48) ↔ s[0].toNat = 48 := by rw [← UInt8.toNat_inj]; rfl
  have e2 : decide (s.data.toList ≠ [48]) = !(s.toList == [48]) := by
    rw [Lib.toList_data]
    by_cases h : s.data.toList = [48] <;> simp [h]
  simp only [wordOf, hn, List.drop_zero, hh, Option.some.injEq, e, e2, decide_eq_true hl, Bool.true_and]
theorem wordOf_neg {s : ByteArray} (h0 : 0 < s.size) (hb : s[0].toNat = 45) : wordOf s.data.toList = (decide (0 < (s.extract 1 s.size).size) && (s.extract 1 s.size).data.toList.all dig && !(decide ((s.extract 1 s.size).data.toList.head? = some 48))) := by
  have hl : 0 < s.data.toList.length := by simpa using h0
  have hn : neg s.data.toList = 1 := neg_of_minus hl (by rw [get_list s 0 h0]; exact hb)
  have hd : (s.extract 1 s.size).data.toList = s.data.toList.drop 1 := Lib.extract_to_end s 1
  have hsz : decide (1 < s.data.toList.length) = decide (0 < (s.extract 1 s.size).size) := by
    rw [decide_eq_decide]; simp; omega
  have e2 : decide (s.data.toList ≠ [48]) = true := by
    rw [decide_eq_true_iff]
    intro h
    have h1 := get_list s 0 h0
    simp only [h] at h1
    rw [← h1] at hb
    exact absurd (show (48 : UInt8).toNat = 45 from hb) (by decide)
  simp only [wordOf, hn, hd, hsz, e2, Bool.and_true]
set_option maxHeartbeats 400000 in
theorem word_empty (w : World) : Calls Tryz.prog 159 #[.string ⟨#[]⟩] w fun e w' => e = .returned (.bool false) ∧ w = w' := by
  go_enter Tryz.func159, Tryz.ntmps159
  go_wp2
  go_ret
  exact ⟨rfl, rfl⟩
set_option maxHeartbeats 800000 in
theorem word_pos (s : ByteArray) (w : World) (hs : s.size ≤ maxLen) (h0 : 0 < s.size) (hb : s[0].toNat ≠ 45) :
    Calls Tryz.prog 159 #[.string s] w fun e w' => e = .returned (.bool (wordOf s.data.toList)) ∧ w = w' := by
  unfold maxLen at hs
  have HW := Lib.hid (wordOf_pos h0 hb)
  have h0' : (0 : Int) < s.size := by omega
  have hsz : ((s.size : Int) == 0) = false := beq_eq_false_iff_ne.2 (by omega)
  have b45 : ((s[0].toNat : Int) == 45) = false := beq_eq_false_iff_ne.2 (by omega)
  clear hb
  by_cases hz : s[0].toNat = 48 ∧ (!(s.toList == [48])) = true
  · obtain ⟨hz, h48⟩ := hz
    have HV := Lib.hid (show wordOf s.data.toList = false by rw [HW.out, decide_eq_true hz, h48]; simp)
    have b48 : ((s[0].toNat : Int) == 48) = true := beq_iff_eq.2 (by omega)
    clear hz HW
    go_enter Tryz.func159, Tryz.ntmps159
    go_wp2
    go_ret
    exact ⟨ret_bool HV.out.symm, rfl⟩
  · have HV := Lib.hid (show wordOf s.data.toList = s.data.toList.all dig by
      rw [HW.out]
      by_cases e : s[0].toNat = 48
      · have : (!(s.toList == [48])) = false := by
          rw [Bool.eq_false_iff]; exact fun h => hz ⟨e, h⟩
        rw [this]; simp
      · rw [decide_eq_false e]; simp)
    have key : ((s[0].toNat : Int) == 48) = false ∨ (((s[0].toNat : Int) == 48) = true ∧ (!(s.toList == [48])) = false) := by
      by_cases e : s[0].toNat = 48
      · exact .inr ⟨beq_iff_eq.2 (by omega), by rw [Bool.eq_false_iff]; exact fun h => hz ⟨e, h⟩⟩
      · exact .inl (beq_eq_false_iff_ne.2 (by omega))
    clear hz HW
    rcases key with b48 | ⟨b48, h48⟩
    all_goals
      go_enter Tryz.func159, Tryz.ntmps159
      go_wp2
      go_loop [4] (fun i => ∃ k : Nat, k ≤ s.size ∧ i = .int .i64 k ∧ ∀ j (h : j < s.size), j < k → 48 ≤ s[j].toNat ∧ s[j].toNat ≤ 57) (fun i => s.size - (intOf i).toNat)
      case atStart => exact ⟨0, Nat.zero_le _, rfl, fun _ _ h => absurd h (by omega)⟩
      case round =>
        obtain ⟨k, hk, rfl, hd⟩ := hrel
        have HD := Lib.hid hd
        clear hd
        by_cases hlt : k < s.size
        · by_cases hdk : 48 ≤ s[k].toNat ∧ s[k].toNat ≤ 57
          · obtain ⟨hd1, hd2⟩ := hdk
            have HD2 := Lib.hid (show ∀ j (h : j < s.size), j < k + 1 → 48 ≤ s[j].toNat ∧ s[j].toNat ≤ 57 from fun j h hj => by
              by_cases e : j = k
              · subst e; exact ⟨hd1, hd2⟩
              · exact HD.out j h (by omega))
            go_wp2
            go_round
            case rel => exact ⟨k + 1, by omega, by go_num, HD2.out⟩
            case measure => simp [intOf]; omega
          · have HV2 := Lib.hid (HV.out.trans (not_all_dig s k hlt hdk))
            have hdk' : s[k].toNat < 48 ∨ 57 < s[k].toNat := by omega
            clear hdk
            rcases hdk' with hdk | hdk
            all_goals
              go_wp2
              go_ret
              exact ⟨ret_bool HV2.out.symm, rfl⟩
        · have HV2 := Lib.hid (HV.out.trans (all_dig s fun j h => HD.out j h (by omega)))
          go_wp2
          go_ret
          exact ⟨ret_bool HV2.out.symm, rfl⟩
set_option maxHeartbeats 800000 in
theorem word_neg (s : ByteArray) (w : World) (hs : s.size ≤ maxLen) (h0 : 0 < s.size) (hb : s[0].toNat = 45) :
    Calls Tryz.prog 159 #[.string s] w fun e w' => e = .returned (.bool (wordOf s.data.toList)) ∧ w = w' := by
  unfold maxLen at hs
  have hw := wordOf_neg h0 hb
  have h0' : (0 : Int) < s.size := by omega
  have h1' : (1 : Int) ≤ s.size := by omega
  have b45 : ((s[0].toNat : Int) == 45) = true := beq_iff_eq.2 (by omega)
  obtain ⟨t, ht⟩ : ∃ t, s.extract 1 s.size = t := ⟨_, rfl⟩
  have hts : t.size = s.size - 1 := by rw [← ht]; simp
  rw [ht] at hw
  have ts : t.size ≤ 9223372036854775807 := by omega
  clear hb
  by_cases hz : t.size = 0
  · have HV := Lib.hid (show wordOf s.data.toList = false by rw [hw, hz]; simp)
    have bz : ((t.size : Int) == 0) = true := beq_iff_eq.2 (by omega)
    clear hz hw hts
    go_enter Tryz.func159, Tryz.ntmps159
    go_wp2
    go_ret
    exact ⟨ret_bool HV.out.symm, rfl⟩
  · have bz : ((t.size : Int) == 0) = false := beq_eq_false_iff_ne.2 (by omega)
    have t0 : 0 < t.size := by omega
    have t0' : (0 : Int) < t.size := by omega
    have hh : t.data.toList.head? = some t[0] := by
      rw [List.head?_eq_getElem?, List.getElem?_eq_getElem (by simpa using t0), get_list t 0 t0]
    have e : (t[0] = 48) ↔ t[0].toNat = 48 := by rw [← UInt8.toNat_inj]; rfl
    have h48 : (!(s.toList == [48])) = true := by
      rw [Lib.toList_data]
      by_cases h : s.data.toList = [48]
      · have h1 := get_list s 0 h0
        simp only [h] at h1
        rw [← h1] at b45
        exact absurd (show (((48 : UInt8).toNat : Int) == 45) = true from b45) (by decide)
      · simp [h]
    simp only [hh, Option.some.injEq, e, decide_eq_true t0, Bool.true_and] at hw
    clear hz hts hh e
    by_cases h8 : t[0].toNat = 48
    · have HV := Lib.hid (show wordOf s.data.toList = false by rw [hw, decide_eq_true h8]; simp)
      have b48 : ((t[0].toNat : Int) == 48) = true := beq_iff_eq.2 (by omega)
      clear h8 hw
      go_enter Tryz.func159, Tryz.ntmps159
      go_wp2
      go_ret
      exact ⟨ret_bool HV.out.symm, rfl⟩
    · have HV := Lib.hid (show wordOf s.data.toList = t.data.toList.all dig by rw [hw, decide_eq_false h8]; simp)
      have b48 : ((t[0].toNat : Int) == 48) = false := beq_eq_false_iff_ne.2 (by omega)
      clear h8 hw
      go_enter Tryz.func159, Tryz.ntmps159
      go_wp2
      go_loop [4] (fun i => ∃ k : Nat, k ≤ t.size ∧ i = .int .i64 k ∧ ∀ j (h : j < t.size), j < k → 48 ≤ t[j].toNat ∧ t[j].toNat ≤ 57) (fun i => t.size - (intOf i).toNat)
      case atStart => exact ⟨0, Nat.zero_le _, rfl, fun _ _ h => absurd h (by omega)⟩
      case round =>
        obtain ⟨k, hk, rfl, hd⟩ := hrel
        have HD := Lib.hid hd
        clear hd
        by_cases hlt : k < t.size
        · by_cases hdk : 48 ≤ t[k].toNat ∧ t[k].toNat ≤ 57
          · obtain ⟨hd1, hd2⟩ := hdk
            have HD2 := Lib.hid (show ∀ j (h : j < t.size), j < k + 1 → 48 ≤ t[j].toNat ∧ t[j].toNat ≤ 57 from fun j h hj => by
              by_cases e : j = k
              · subst e; exact ⟨hd1, hd2⟩
              · exact HD.out j h (by omega))
            go_wp2
            go_round
            case rel => exact ⟨k + 1, by omega, by go_num, HD2.out⟩
            case measure => simp [intOf]; omega
          · have HV2 := Lib.hid (HV.out.trans (not_all_dig t k hlt hdk))
            have hdk' : t[k].toNat < 48 ∨ 57 < t[k].toNat := by omega
            clear hdk
            rcases hdk' with hdk | hdk
            all_goals
              go_wp2
              go_ret
              exact ⟨ret_bool HV2.out.symm, rfl⟩
        · have HV2 := Lib.hid (HV.out.trans (all_dig t fun j h => HD.out j h (by omega)))
          go_wp2
          go_ret
          exact ⟨ret_bool HV2.out.symm, rfl⟩
theorem word_any (s : ByteArray) (w : World) (hs : s.size ≤ maxLen) :
    Calls Tryz.prog 159 #[.string s] w fun e w' => e = .returned (.bool (wordOf s.data.toList)) ∧ w = w' := by
  by_cases h0 : 0 < s.size
  · by_cases hb : s[0].toNat = 45
    · exact word_neg s w hs h0 hb
    · exact word_pos s w hs h0 hb
  · obtain ⟨⟨l⟩⟩ := s
    have : l = [] := by
      have : l.length = 0 := by simpa [ByteArray.size] using h0
      exact List.length_eq_zero_iff.1 this
    subst this
    exact word_empty w
theorem less_any (a b : ByteArray) (w : World) (ha : a.size ≤ maxLen) (hb : b.size ≤ maxLen) :
    Calls Tryz.prog 160 #[.string a, .string b] w fun e w' => e = .returned (.bool (decide (a.size < b.size) || (decide (a.size = b.size) && (Op.bytesLess a.data.toList b.data.toList || a.data.toList == b.data.toList)))) ∧ w = w' := by
  unfold maxLen at ha hb
  rcases Nat.lt_trichotomy a.size b.size with h | h | h
  · have h' : (a.size : Int) < b.size := by omega
    have HV := Lib.hid (decide_eq_true h)
    go_enter Tryz.func160, Tryz.ntmps160
    go_wp2
    go_ret
    exact ⟨ret_bool (by simp [h]), rfl⟩
  · have h' : ¬ (a.size : Int) < b.size := by omega
    have h2 : ((a.size : Int) == b.size) = true := beq_iff_eq.2 (by omega)
    have HV := Lib.hid h
    clear h
    go_enter Tryz.func160, Tryz.ntmps160
    go_wp2
    go_ret
    exact ⟨ret_bool (by simp [HV.out, Lib.toList_data]), rfl⟩
  · have h' : ¬ (a.size : Int) < b.size := by omega
    have h2 : ((a.size : Int) == b.size) = false := beq_eq_false_iff_ne.2 (by omega)
    go_enter Tryz.func160, Tryz.ntmps160
    go_wp2
    go_ret
    exact ⟨ret_bool (by simp; omega), rfl⟩
end Go.Proofs.YtmmffeldlhofiaaGreatDoor
end
section
namespace Go.Proofs.YtmmffeldlhofiaaGreatDoor
set_option maxRecDepth 10000
open Go.RowKit Punnet.Num
theorem less_any' (a b : ByteArray) (w : World) (ha : a.size ≤ maxLen) (hb : b.size ≤ maxLen) :
    Calls Tryz.prog 160 #[.string a, .string b] w fun e w' => e = .returned (.bool (lessB a.data.toList b.data.toList)) ∧ w = w' := by
  have h := less_any a b w ha hb
  have h1 : a.size = a.data.toList.length := by simp
  have h2 : b.size = b.data.toList.length := by simp
  rw [h1, h2] at h
  exact h
def mostB : ByteArray := ⟨#[57, 50, 50, 51, 51, 55, 50, 48, 51, 54, 56, 53, 52, 55, 55, 53, 56, 48, 56]⟩
def maxB : ByteArray := ⟨#[57, 50, 50, 51, 51, 55, 50, 48, 51, 54, 56, 53, 52, 55, 55, 53, 56, 48, 55]⟩
theorem refRead_neg (s : ByteArray) (w : World) (hs : s.size ≤ maxLen) (h0 : 0 < s.size) (hb : s[0].toNat = 45) (hw : wordOf s.data.toList = true) :
    Calls Tryz.prog 137 #[.string s] w fun e w' => e = .returned (.tuple #[.int .i64 (readOf s.data.toList).1, .int .i64 (readOf s.data.toList).2]) ∧ w = w' := by
  have HW := Lib.hid (word_any s w hs)
  rw [hw] at HW
  have hl : 0 < s.data.toList.length := by simpa using h0
  have hlen : s.data.toList.length = s.size := by simp
  have hn : neg s.data.toList = 1 := neg_of_minus hl (by rw [get_list s 0 h0]; exact hb)
  have iw := isWord hw
  have HR := Lib.hid iw.read
  have hless := iw.less_most
  have hd : (s.extract 1 s.size).data.toList = s.data.toList.drop (neg s.data.toList) := by rw [hn]; exact Lib.extract_to_end s 1
  have HL := Lib.hid (less_any' (s.extract 1 s.size) mostB w (by simp; unfold maxLen at *; omega) (by decide))
  rw [hd] at HL
  rw [show mostB.data.toList = [57, 50, 50, 51, 51, 55, 50, 48, 51, 54, 56, 53, 52, 55, 55, 53, 56, 48, 56] from rfl, hless] at HL
  rw [mostB] at HL
  unfold maxLen at hs
  have h0' : (0 : Int) < s.size := by omega
  have h1' : (1 : Int) ≤ s.size := by omega
  have b45 : ((s[0].toNat : Int) == 45) = true := beq_iff_eq.2 (by omega)
  have b45' : ((s[0].toNat : Int) != 45) = false := by rw [bne, b45]; rfl
  have hdig : ∀ k (h : k < s.size), 0 < k → 48 ≤ s[k].toNat ∧ s[k].toNat ≤ 57 := by
    intro k h hk
    rw [← get_list s k h]
    have := iw.digits (s.data.toList[k]'(by omega)) (by
      rw [hn]
      have e : s.data.toList[k]'(by omega) = (s.data.toList.drop 1)[k - 1]'(by rw [List.length_drop]; omega) := by
        rw [List.getElem_drop]; congr 1; omega
      rw [e]; exact List.getElem_mem _)
    exact this
  have HD := Lib.hid hdig
  by_cases hov : 9223372036854775808 < natOf (s.data.toList.drop (neg s.data.toList))
  · have HV := Lib.hid (show readOf s.data.toList = (0, 3) by rw [HR.out, if_pos hn, if_pos hov])
    rw [decide_eq_false (by omega)] at HL
    clear hb hw hlen hn iw HR hless hd hdig hov HD
    go_enter Tryz.func137, Tryz.ntmps137
    go_wp2_with (first | (go_at_call 159; refine HW.out.mono ?_; rintro e w1 ⟨rfl, rfl⟩) | (go_at_call 160; refine HL.out.mono ?_; rintro e w1 ⟨rfl, rfl⟩))
    go_ret2
    exact ⟨ret2_i64 (by rw [HV.out]), rfl⟩
  · have HV := Lib.hid (show readOf s.data.toList = (-(natOf (s.data.toList.drop (neg s.data.toList)) : Int), 0) by rw [HR.out, if_pos hn, if_neg hov])
    rw [decide_eq_true (by omega)] at HL
    have HO := Lib.hid hov
    have HN := Lib.hid hn
    have hl1 : s.data.toList.length ≤ s.size := by omega
    have hl2 : s.size ≤ s.data.toList.length := by omega
    clear hb hw hlen hn iw HR hless hd hdig hov
    go_enter Tryz.func137, Tryz.ntmps137
    go_wp2_with (first | (go_at_call 159; refine HW.out.mono ?_; rintro e w1 ⟨rfl, rfl⟩) | (go_at_call 160; refine HL.out.mono ?_; rintro e w1 ⟨rfl, rfl⟩))
    go_loop [4, 5] (fun n i => ∃ k S : Nat, k ≤ s.size ∧ i = .int .i64 k ∧ n = .int .i64 (-(S : Int)) ∧ S = pref s.data.toList k) (fun _ i => s.size - (intOf i).toNat)
    case atStart => exact ⟨0, 0, Nat.zero_le _, rfl, rfl, (pref_zero _).symm⟩
    case round =>
      obtain ⟨k, S, hk, rfl, rfl, hS⟩ := hrel
      by_cases hlt : k < s.size
      · have hle := pref_le s.data.toList (k + 1)
        have HO' := HO.out
        by_cases hk0 : k = 0
        · subst hk0
          have HS := Lib.hid hS
          have HP := pref_zero s.data.toList
          clear hS
          have HP1 := Lib.hid (pref_one HN.out)
          rw [HP] at HS
          have HS0 := HS.out
          subst HS0
          clear hle HP HO'
          go_wp2
          go_round
          case rel => exact ⟨1, 0, by omega, rfl, rfl, HP1.out.symm⟩
          case measure => simp [intOf]; omega
        · obtain ⟨d1, d2⟩ := HD.out k hlt (by omega)
          have hst := pref_step (l := s.data.toList) (k := k) (by omega) (by have := HN.out; omega)
          rw [get_list s k hlt, ← hS] at hst
          have HST := Lib.hid hst
          have hbd : 10 * S + (s[k].toNat - 48) ≤ 9223372036854775808 := by omega
          clear hS hst hle HO'
          have hne : ((s[k].toNat : Int) != 45) = true := by rw [bne_iff_ne]; omega
          go_wp2
          go_round
          case rel => exact ⟨k + 1, 10 * S + (s[k].toNat - 48), by omega, by go_num, by go_num, HST.out.symm⟩
          case measure => simp [intOf]; omega
      · have HE := Lib.hid (hS.trans (pref_end (by omega)))
        clear hS
        go_wp2
        go_ret2
        exact ⟨ret2_i64 (by rw [HV.out, HE.out]), rfl⟩
theorem refRead_pos (s : ByteArray) (w : World) (hs : s.size ≤ maxLen) (h0 : 0 < s.size) (hb : s[0].toNat ≠ 45) (hw : wordOf s.data.toList = true) :
    Calls Tryz.prog 137 #[.string s] w fun e w' => e = .returned (.tuple #[.int .i64 (readOf s.data.toList).1, .int .i64 (readOf s.data.toList).2]) ∧ w = w' := by
  have HW := Lib.hid (word_any s w hs)
  rw [hw] at HW
  have hl : 0 < s.data.toList.length := by simpa using h0
  have hlen : s.data.toList.length = s.size := by simp
  have hn : neg s.data.toList = 0 := neg_of_dig hl (by rw [get_list s 0 h0]; exact hb)
  have iw := isWord hw
  have HR := Lib.hid iw.read
  have hless : lessB s.data.toList [57, 50, 50, 51, 51, 55, 50, 48, 51, 54, 56, 53, 52, 55, 55, 53, 56, 48, 55] = decide (natOf (s.data.toList.drop (neg s.data.toList)) ≤ 9223372036854775807) := by
    rw [← iw.less_max]
    rw [hn]; rfl
  have hd : s.data.toList = s.data.toList.drop (neg s.data.toList) := by rw [hn]; rfl
  have HL := Lib.hid (less_any' s maxB w hs (by decide))
  rw [show maxB.data.toList = [57, 50, 50, 51, 51, 55, 50, 48, 51, 54, 56, 53, 52, 55, 55, 53, 56, 48, 55] from rfl, hless] at HL
  rw [maxB] at HL
  unfold maxLen at hs
  have h0' : (0 : Int) < s.size := by omega
  have h1' : (1 : Int) ≤ s.size := by omega
  have b45 : ((s[0].toNat : Int) == 45) = false := beq_eq_false_iff_ne.2 (by omega)
  have b45' : ((s[0].toNat : Int) != 45) = true := by rw [bne, b45]; rfl
  have hdig : ∀ k (h : k < s.size), 48 ≤ s[k].toNat ∧ s[k].toNat ≤ 57 := by
    intro k h
    rw [← get_list s k h]
    have := iw.digits (s.data.toList[k]'(by omega)) (by
      rw [← hd]; exact List.getElem_mem _)
    exact this
  have HD := Lib.hid hdig
  by_cases hov : 9223372036854775807 < natOf (s.data.toList.drop (neg s.data.toList))
  · have HV := Lib.hid (show readOf s.data.toList = (0, 3) by rw [HR.out, if_neg (by omega), if_pos hov])
    rw [decide_eq_false (by omega)] at HL
    clear hb hw hlen hn iw HR hless hd hdig hov HD
    go_enter Tryz.func137, Tryz.ntmps137
    go_wp2_with (first | (go_at_call 159; refine HW.out.mono ?_; rintro e w1 ⟨rfl, rfl⟩) | (go_at_call 160; refine HL.out.mono ?_; rintro e w1 ⟨rfl, rfl⟩))
    go_ret2
    exact ⟨ret2_i64 (by rw [HV.out]), rfl⟩
  · have HV := Lib.hid (show readOf s.data.toList = ((natOf (s.data.toList.drop (neg s.data.toList)) : Int), 0) by rw [HR.out, if_neg (by omega), if_neg hov])
    rw [decide_eq_true (by omega)] at HL
    have HO := Lib.hid hov
    have HN := Lib.hid hn
    have hl1 : s.data.toList.length ≤ s.size := by omega
    have hl2 : s.size ≤ s.data.toList.length := by omega
    clear hb hw hlen hn iw HR hless hd hdig hov
    go_enter Tryz.func137, Tryz.ntmps137
    go_wp2_with (first | (go_at_call 159; refine HW.out.mono ?_; rintro e w1 ⟨rfl, rfl⟩) | (go_at_call 160; refine HL.out.mono ?_; rintro e w1 ⟨rfl, rfl⟩))
    go_loop [4, 5] (fun n i => ∃ k S : Nat, k ≤ s.size ∧ i = .int .i64 k ∧ n = .int .i64 (-(S : Int)) ∧ S = pref s.data.toList k) (fun _ i => s.size - (intOf i).toNat)
    case atStart => exact ⟨0, 0, Nat.zero_le _, rfl, rfl, (pref_zero _).symm⟩
    case round =>
      obtain ⟨k, S, hk, rfl, rfl, hS⟩ := hrel
      by_cases hlt : k < s.size
      · have hle := pref_le s.data.toList (k + 1)
        have HO' := HO.out
        obtain ⟨d1, d2⟩ := HD.out k hlt
        have hst := pref_step (l := s.data.toList) (k := k) (by omega) (by have := HN.out; omega)
        rw [get_list s k hlt, ← hS] at hst
        have HST := Lib.hid hst
        have hbd : 10 * S + (s[k].toNat - 48) ≤ 9223372036854775807 := by omega
        clear hS hst hle HO'
        have hne : ((s[k].toNat : Int) != 45) = true := by rw [bne_iff_ne]; omega
        go_wp2
        go_round
        case rel => exact ⟨k + 1, 10 * S + (s[k].toNat - 48), by omega, by go_num, by go_num, HST.out.symm⟩
        case measure => simp [intOf]; omega
      · have HE := Lib.hid (hS.trans (pref_end (by omega)))
        have hSb : S ≤ 9223372036854775807 := by have h1 := HE.out; have h2 := HO.out; omega
        clear hS
        go_wp2
        go_ret2
        exact ⟨ret2_i64 (by rw [HV.out, HE.out]), rfl⟩
set_option maxHeartbeats 400000 in
theorem refRead_no (s : ByteArray) (w : World) (hs : s.size ≤ maxLen) (hw : wordOf s.data.toList = false) :
    Calls Tryz.prog 137 #[.string s] w fun e w' => e = .returned (.tuple #[.int .i64 0, .int .i64 4]) ∧ w = w' := by
  have HW := Lib.hid (word_any s w hs)
  rw [hw] at HW
  clear hw
  go_enter Tryz.func137, Tryz.ntmps137
  go_wp2_with (go_at_call 159; refine HW.out.mono ?_; rintro e w1 ⟨rfl, rfl⟩)
  go_ret2
  exact ⟨rfl, rfl⟩
theorem refRead_any (s : ByteArray) (w : World) (hs : s.size ≤ maxLen) :
    Calls Tryz.prog 137 #[.string s] w fun e w' => e = .returned (.tuple #[.int .i64 (readOf s.data.toList).1, .int .i64 (readOf s.data.toList).2]) ∧ w = w' := by
  cases hw : wordOf s.data.toList with
  | false => rw [read_no_word hw]; exact refRead_no s w hs hw
  | true =>
    have h0 : 0 < s.size := by
      have := (isWord hw).some_
      have h2 : s.data.toList.length = s.size := by simp
      omega
    by_cases hb : s[0].toNat = 45
    · exact refRead_neg s w hs h0 hb hw
    · exact refRead_pos s w hs h0 hb hw
end Go.Proofs.YtmmffeldlhofiaaGreatDoor
end
section
namespace Go.Vm
open Go.RowKit Go.Proofs Go.Proofs.YtmmffeldlhofiaaGreatDoor Punnet.Name Punnet.Num
theorem numPrint_any (n : Int) (h : inI64 n) : Contract Tryz.prog 91 [.sc (.int .i64 n)] [.d (.sc (.string (printB n)))] :=
 old_one (us := [.int .i64 n]) rfl fun w => print_any n w (by omega) (by omega)
theorem refPrint_c (n : Int) (h : inI64 n) : Contract Tryz.prog 68 [.sc (.int .i64 n)] [.d (.sc (.string (printB n)))] :=
 old_one (us := [.int .i64 n]) rfl fun w => refPrint_any n w (by omega) (by omega)
theorem numRead_any (s : ByteArray) (h : s.size ≤ 1000000) : Contract Tryz.prog 116 [.sc (.string s)] [.d (.sc (.int .i64 (numW s).1)), .d (.sc (.int .i64 (numW s).2))] :=
 old_tup (us := [.string s]) (rs := []) (by simp [plainV]) fun w => read_any s w (by unfold maxLen; omega)
theorem refNumRead_any (s : ByteArray) (h : s.size ≤ 1000000) : Contract Tryz.prog 137 [.sc (.string s)] [.d (.sc (.int .i64 (numW s).1)), .d (.sc (.int .i64 (numW s).2))] :=
 old_tup (us := [.string s]) (rs := []) (by simp [plainV]) fun w => (refRead_any s w (by unfold maxLen; omega)).mono (by rintro e w' ⟨rfl, rfl⟩; exact ⟨rfl, Below.refl _ _⟩)
theorem quote_any (s : ByteArray) (h : s.size ≤ 40) : Contract Tryz.prog 132 [.sc (.string s)] [.d (.sc (.string (quoteB s))), .d (.sc (.int .i64 0))] :=
 old_tup (us := [.string s]) (rs := []) (by simp [plainV]) fun w => quote_go s w h
theorem refQuote_c (s : ByteArray) (h : s.size ≤ 1000000) : Contract Tryz.prog 69 [.sc (.string s)] [.d (.sc (.string (quoteB s)))] :=
 old_one (us := [.string s]) rfl fun w => refQuote_any s w (by omega)
theorem unquote_c (s : ByteArray) (h : s.size ≤ 1000000) : Contract Tryz.prog 117 [.sc (.string s)] [.d (.sc (.string (unquoteOf s).1)), .d (.sc (.int .i64 (unquoteOf s).2))] :=
 old_tup (us := [.string s]) (rs := []) (by simp [plainV]) fun w => unquote_any s w (by omega)
theorem refScan_c (s : ByteArray) (h : s.size ≤ 1000000) : Contract Tryz.prog 138 [.sc (.string s), .sc (.int .i64 0)] [.d (.sc (.string (scanOf s 0).1)), .d (.sc (.int .i64 ((scanOf s 0).2.1 : Nat))), .d (.sc (.int .i64 (scanOf s 0).2.2))] :=
 old_tup (us := [.string s, .int .i64 0]) (r1 := .string (scanOf s 0).1) (r2 := .int .i64 ((scanOf s 0).2.1 : Nat)) (rs := [.int .i64 (scanOf s 0).2.2]) (by simp [plainV]) fun w => refScan_any s 0 w (by omega) (by omega)
theorem nameSplit_any (s : ByteArray) (h : s.size ≤ 1000000) : Contract Tryz.prog 98 [.sc (.string s)] [.d (.row ((splitB s 0).map strD))] :=
 old_strs (us := [.string s]) fun w => split_any s w (by omega)
theorem refSplit_c (s : ByteArray) (h : s.size ≤ 1000000) : Contract Tryz.prog 55 [.sc (.string s)] [.d (.row ((splitB s 0).map strD))] :=
 old_strs (us := [.string s]) fun w => refSplit_any s w (by omega)
end Go.Vm
end
section
namespace Go.Vm
open Go.RowKit Go.Proofs
set_option maxRecDepth 10000
open Go.Proofs.YtmmffeldlhofiaaGreatDoor Punnet.Name Punnet.Num
theorem cut_yes {c : UInt8} {s : ByteArray} {a r : List UInt8} (hd : s.data.toList = a ++ c :: r) (hc : c ∉ a) : mkB (cutC c s.data.toList).1 = s.extract 0 a.length ∧ mkB (cutC c s.data.toList).2.1 = s.extract (a.length + 1) s.size ∧ (cutC c s.data.toList).2.2 = true := by
  rw [hd, cutC_hit hc]
  refine ⟨ba_ext ?_, ba_ext ?_, rfl⟩
  · rw [mkB_data, ext_data, hd, List.drop_zero, List.take_left]
  · rw [mkB_data, ext_data, ← ba_len, List.take_length, hd, ← List.drop_drop, List.drop_left]; rfl
theorem cut_cases (c : UInt8) (s : ByteArray) : (Lib.index s.data.toList [c] = -1 ∧ c ∉ s.data.toList) ∨ ∃ a r, s.data.toList = a ++ c :: r ∧ c ∉ a ∧ Lib.index s.data.toList [c] = (a.length : Int) := idx_cases _
theorem liteCut_any (c : UInt8) (s : ByteArray) (hs : s.size ≤ 1000000) : Contract Tryz.prog 158 [.sc (.string (s)), .sc (.string (⟨#[c]⟩))] [.d (.sc (.string (mkB (cutC c s.data.toList).1))), .d (.sc (.string (mkB (cutC c s.data.toList).2.1))), .d (.sc (.bool ((cutC c s.data.toList).2.2)))] := by
 refine T.fn [] Tryz.func158 ?_
 have hcc := cut_cases c s
 refine x_call T.en_182 (index1_any c s) ?_
 refine br (fun hc1 => ?y1) (fun hc1 => ?n1)
 case' y1 =>
  obtain ⟨a, r, hd, hc, hi⟩ := hcc.resolve_left (fun k => by rw [k.1] at hc1; exact absurd hc1 (by decide))
  have h9 : s.size = a.length + (1 + r.length) := by rw [← ba_len, hd, List.length_append, List.length_cons]; omega
  have hq := cut_yes hd hc
  refine And.intro ⟨T.mixed, by decide +kernel⟩ ?_
  first | refine x_bnd ?_ | refine x_bndI ?_
  refine x_str ?_ (h1 := by (first | omega | (rw [hi, h9]; simp [lit_size]; omega) | (simp [lit_size]; omega))) (h2 := by (first | omega | (rw [hi, h9]; simp [lit_size]; omega) | (simp [lit_size]; omega)))
  refine x_len ?_
  first | refine x_inc ?_ (h := by (first | omega | (rw [hi, h9]; simp [lit_size]; omega) | (simp [lit_size]; omega))) | refine x_add ?_ (h := by first | exact IntWalk.i64_in _ (by (first | omega | (rw [hi, h9]; simp [lit_size]; omega) | (simp [lit_size]; omega))) | rfl) | refine x_bin rfl rfl ?_
  first | refine x_bnd ?_ | refine x_bndI ?_
  refine x_str ?_ (h1 := by (first | omega | (rw [hi, h9]; simp [lit_size]; omega) | (simp [lit_size]; omega))) (h2 := by (first | omega | (rw [hi, h9]; simp [lit_size]; omega) | (simp [lit_size]; omega)))
 case' n1 =>
  obtain ⟨hi, hc⟩ := hcc.resolve_right (fun ⟨a, r, _, _, k⟩ => by rw [k] at hc1; exact hc1 (by omega))
 all_goals (refine x_ret ?_; simp only [fitsL, fits, C.asD, and_true] <;> (first | (rw [cutC_miss hc]; exact ⟨sct (mkB_of s).symm, rfl, rfl⟩) | (rw [hq.2.2, hq.1, hq.2.1, hi]; exact ⟨rfl, rfl, rfl⟩)))
end Go.Vm
end
section
namespace Go.Vm
open Go.RowKit Go.Proofs
set_option maxRecDepth 10000
open Go.Proofs.YtmmffeldlhofiaaGreatDoor Punnet.Name Punnet.Num
theorem cut_sizes (c : UInt8) (s : ByteArray) : (mkB (cutC c s.data.toList).1).size ≤ s.size ∧ (mkB (cutC c s.data.toList).2.1).size ≤ s.size := by
  rcases cut_cases c s with ⟨_, h⟩ | ⟨a, r, hd, hc, _⟩
  · rw [cutC_miss h, mkB_of]; exact ⟨Nat.le_refl _, Nat.zero_le _⟩
  · have hl : s.size = a.length + (1 + r.length) := by rw [← ba_len, hd, List.length_append, List.length_cons]; omega
    rw [hd, cutC_hit hc]
    have q1 : (mkB a).size = a.length := by rw [← ba_len, mkB_data]
    have q2 : (mkB r).size = r.length := by rw [← ba_len, mkB_data]
    exact ⟨by show (mkB a).size ≤ _; omega, by show (mkB r).size ≤ _; omega⟩
theorem print_size {n : Int} (h : inI64 n) : (printB n).size ≤ 30 := by
  rw [printB_size, print_len]
  have := digs_len (m := n.natAbs) (k := 19) (by have := h.1; have := h.2; omega) (by decide)
  split <;> omega
def quotedR (s : ByteArray) : ByteArray × Bool := ((scanOf s 0).1, decide ((scanOf s 0).2.2 = 0) && decide ((((scanOf s 0).2.1 : Nat) : Int) = (s.size : Int)))
theorem quotedR_text {s : ByteArray} (h : (quotedR s).2 = true) : quoteB (quotedR s).1 = s ∧ (quotedR s).1.size ≤ 40 := by
  unfold quotedR at h ⊢
  simp only [Bool.and_eq_true, decide_eq_true_eq] at h ⊢
  obtain ⟨h1, h2⟩ := h
  cases hq : quotedAt s.data.toList 0 with
  | none => rw [show (0 : Int) = ((0 : Nat) : Int) from rfl, scanOf_none (Nat.zero_le _) hq] at h1; exact absurd h1 (by decide)
  | some p =>
    obtain ⟨t, n⟩ := p
    by_cases hl : 40 < t.length
    · rw [show (0 : Int) = ((0 : Nat) : Int) from rfl, scanOf_long (Nat.zero_le _) hq hl] at h1; exact absurd h1 (by decide)
    · have hs := scanOf_fine (s := s) (k := 0) (Nat.zero_le _) hq hl
      rw [show ((0 : Nat) : Int) = 0 from rfl] at hs
      rw [hs] at h2 ⊢
      obtain ⟨i1, i2⟩ := quotedAt_inv hq
      refine ⟨ba_ext ?_, by show (mkB t).size ≤ 40; rw [← ba_len, mkB_data]; omega⟩
      unfold quoteB
      rw [mkB_data]
      show quoteL (mkB t).data.toList = _
      rw [mkB_data]
      have hn : n = s.size := by simp only at h2; omega
      rw [List.drop_zero, hn, List.drop_of_length_le (by rw [ba_len]; omega), List.append_nil] at i1
      exact i1.symm
def CutI (c : UInt8) (s : ByteArray) (i fr : Nat) (out : List ByteArray) : Prop := fr ≤ i ∧ i ≤ s.size ∧ splitW c s = out ++ (splitC c (s.data.toList.drop fr)).map mkB ∧ c ∉ (s.data.toList.take i).drop fr ∧ out.length ≤ i
theorem CutI.start (c : UInt8) (s : ByteArray) : CutI c s 0 0 [] := ⟨Nat.le_refl _, Nat.zero_le _, by rw [List.drop_zero]; rfl, by simp, Nat.le_refl _⟩
theorem take_get {l : List UInt8} {i fr : Nat} {b : UInt8} (h : l[i]? = some b) (hf : fr ≤ i) : (l.take (i + 1)).drop fr = (l.take i).drop fr ++ [b] := by
  rw [List.take_add_one, h, List.drop_append_of_le_length (by rw [List.length_take]; have := (List.getElem?_eq_some_iff.1 h).1; omega)]; rfl
theorem CutI.miss {c b : UInt8} {s : ByteArray} {i fr : Nat} {out : List ByteArray} (h : CutI c s i fr out) (hb : s[i]? = some b) (hn : ¬ b = c) : CutI c s (i + 1) fr out := by
  obtain ⟨h1, h2, h3, h4, h5⟩ := h
  rw [get_data'] at hb
  have hl := (List.getElem?_eq_some_iff.1 hb).1
  rw [ba_len] at hl
  refine ⟨by omega, by omega, h3, ?_, by omega⟩
  rw [take_get hb h1]
  intro k
  rcases List.mem_append.1 k with k | k
  · exact h4 k
  · rw [List.mem_singleton] at k; exact hn k.symm
theorem CutI.hit {c : UInt8} {s : ByteArray} {i fr : Nat} {out : List ByteArray} (h : CutI c s i fr out) (hb : s[i]? = some c) : CutI c s (i + 1) (i + 1) (out ++ [s.extract fr i]) := by
  obtain ⟨h1, h2, h3, h4, h5⟩ := h
  rw [get_data'] at hb
  have hl := (List.getElem?_eq_some_iff.1 hb).1
  have hd : s.data.toList.drop fr = (s.data.toList.take i).drop fr ++ c :: s.data.toList.drop (i + 1) := by
    have e : s.data.toList = s.data.toList.take i ++ c :: s.data.toList.drop (i + 1) := by
      conv => lhs; rw [← List.take_append_drop i s.data.toList]
      rw [List.drop_eq_getElem_cons hl, (List.getElem?_eq_some_iff.1 hb).2]
    conv => lhs; rw [e]
    rw [List.drop_append_of_le_length (by rw [List.length_take]; omega)]
  rw [ba_len] at hl
  refine ⟨Nat.le_refl _, by omega, ?_, ?_, by rw [List.length_append, List.length_singleton]; omega⟩
  · rw [h3, hd, splitC_app _ h4, List.map_cons, List.append_assoc]
    congr 1
    rw [List.singleton_append]
    congr 1
    apply ba_ext
    rw [mkB_data, ext_data]
  · rw [List.drop_of_length_le (by rw [List.length_take]; omega)]; simp
theorem CutI.done {c : UInt8} {s : ByteArray} {fr : Nat} {out : List ByteArray} (h : CutI c s s.size fr out) : splitW c s = out ++ [s.extract fr s.size] := by
  obtain ⟨h1, h2, h3, h4, h5⟩ := h
  rw [← ba_len, List.take_length] at h4
  rw [h3, splitC_free h4]
  congr 1
  rw [List.map_cons, List.map_nil]
  congr 1
  apply ba_ext
  rw [mkB_data, ext_data, ← ba_len, List.take_length]
theorem str_ix {s : ByteArray} {k : Nat} {c : UInt8} (h : s[k]? = some c) : s[((k : Nat) : Int).toNat]? = some c := by rw [Int.toNat_natCast]; exact h
theorem strs_snoc {l : List ByteArray} {a : ByteArray} : l.map strD ++ [strD a] = (l ++ [a]).map strD := by simp
theorem cut1_any (c : UInt8) (s : ByteArray) (hs : s.size ≤ 1000000) : Contract Tryz.prog 136 [.sc (.string (s)), .sc (.string (⟨#[c]⟩))] [.d (.sc (.string (mkB (cutC c s.data.toList).1))), .d (.sc (.string (mkB (cutC c s.data.toList).2.1))), .d (.sc (.bool ((cutC c s.data.toList).2.2)))] := by
 refine T.fn [] Tryz.func136 ?_
 refine x_call T.en_158 (liteCut_any c s hs) ?_
 all_goals (refine x_ret ?_; simp only [fitsL, fits, C.asD, and_true] <;> (exact ⟨rfl, rfl, rfl⟩))
theorem scriptTag_any (t : TagD) (h : tagIn t) : Contract Tryz.prog 48 [tD t] [.d (.sc (.string (tagT t)))] := by
 refine T.fn [] Tryz.func48 ?_
 have z1 := print_size h.1
 have z2 := print_size h.2
 refine And.intro ⟨T.mixed, by decide +kernel⟩ ?_
 refine x_call T.en_91 (numPrint_any t.r h.1) ?_
 refine x_cat ?_ (h := by ((simp only [ByteArray.size_append, lit_size, List.size_toArray, List.length_cons, List.length_nil]; omega)))
 refine x_call T.en_91 (numPrint_any t.n h.2) ?_
 refine x_cat ?_ (h := by ((simp only [ByteArray.size_append, lit_size, List.size_toArray, List.length_cons, List.length_nil]; omega)))
 all_goals (refine x_ret ?_; simp only [fitsL, fits, C.asD, and_true] <;> (refine sct (ba_ext ?_); simp [ba_app, tagT, printB]))
theorem ref34Tag_any (t : TagD) (h : tagIn t) : Contract Tryz.prog 54 [tD t] [.d (.sc (.string (tagT t)))] := by
 refine T.fn [] Tryz.func54 ?_
 have z1 := print_size h.1
 have z2 := print_size h.2
 refine And.intro ⟨T.mixed, by decide +kernel⟩ ?_
 refine x_call T.en_68 (refPrint_c t.r h.1) ?_
 refine x_cat ?_ (h := by ((simp only [ByteArray.size_append, lit_size, List.size_toArray, List.length_cons, List.length_nil]; omega)))
 refine x_call T.en_68 (refPrint_c t.n h.2) ?_
 refine x_cat ?_ (h := by ((simp only [ByteArray.size_append, lit_size, List.size_toArray, List.length_cons, List.length_nil]; omega)))
 all_goals (refine x_ret ?_; simp only [fitsL, fits, C.asD, and_true] <;> (refine sct (ba_ext ?_); simp [ba_app, tagT, printB]))
theorem scriptReadTag_any (s : ByteArray) (hs : s.size ≤ 1000000) : Contract Tryz.prog 99 [.sc (.string (s))] [.d (tD ((tagOf s).getD noTag)), .d (.sc (.int .i64 ((if (tagOf s).isSome = true then 0 else 4))))] := by
 refine T.fn [] Tryz.func99 ?_
 have hcs := cut_sizes 46 s
 refine x_call T.en_136 (cut1_any 46 s hs) ?_
 refine x_call T.en_116 (numRead_any (mkB (cutC 46 s.data.toList).1) (by omega)) ?_
 refine x_call T.en_116 (numRead_any (mkB (cutC 46 s.data.toList).2.1) (by omega)) ?_
 refine br (fun hg1 => ?y1) (fun hg1 => ?n1)
 case' y1 =>
  have hN := tag_cutC_no (s := s) (a := (cutC 46 s.data.toList).1) (b := (cutC 46 s.data.toList).2.1) (f := (cutC 46 s.data.toList).2.2) rfl (fun k => hg1 (by rw [show (numW (mkB (cutC 46 s.data.toList).1)).2 = (readOf (cutC 46 s.data.toList).1).2 by rw [show numW (mkB (cutC 46 s.data.toList).1) = readOf (mkB (cutC 46 s.data.toList).1).data.toList from rfl, mkB_data]]; exact k.1))
  refine brT ?_
 case' n1 =>
  refine br (fun hc3 => ?y3) (fun hc3 => ?n3)
  case' y3 =>
   have hN := tag_cutC_no (s := s) (a := (cutC 46 s.data.toList).1) (b := (cutC 46 s.data.toList).2.1) (f := (cutC 46 s.data.toList).2.2) rfl (fun k => hc3 (by rw [show (numW (mkB (cutC 46 s.data.toList).2.1)).2 = (readOf (cutC 46 s.data.toList).2.1).2 by rw [show numW (mkB (cutC 46 s.data.toList).2.1) = readOf (mkB (cutC 46 s.data.toList).2.1).data.toList from rfl, mkB_data]]; exact k.2))
  case' n3 =>
   have e1 : numW (mkB (cutC 46 s.data.toList).1) = readOf (cutC 46 s.data.toList).1 := by rw [show numW (mkB (cutC 46 s.data.toList).1) = readOf (mkB (cutC 46 s.data.toList).1).data.toList from rfl, mkB_data]
   have e2 : numW (mkB (cutC 46 s.data.toList).2.1) = readOf (cutC 46 s.data.toList).2.1 := by rw [show numW (mkB (cutC 46 s.data.toList).2.1) = readOf (mkB (cutC 46 s.data.toList).2.1).data.toList from rfl, mkB_data]
   have hY := tag_cutC (s := s) (a := (cutC 46 s.data.toList).1) (b := (cutC 46 s.data.toList).2.1) (f := (cutC 46 s.data.toList).2.2) rfl (by rw [← e1]; simp_all) (by rw [← e2]; simp_all)
 all_goals (refine x_ret ?_; simp only [fitsL, fits, C.asD, and_true] <;> (first | (rw [hN]; exact ⟨rfl, rfl⟩) | (rw [hY, e1, e2]; exact ⟨rfl, rfl⟩)))
theorem ref34Number_any (s : ByteArray) (hs : s.size ≤ 1000000) : Contract Tryz.prog 101 [.sc (.string (s))] [.d (.sc (.int .i64 ((numW s).1))), .d (.sc (.bool (decide ((numW s).2 = 0))))] := by
 refine T.fn [] Tryz.func101 ?_
 refine x_call T.en_137 (refNumRead_any s hs) ?_
 all_goals (refine x_ret ?_; simp only [fitsL, fits, C.asD, and_true] <;> (first | exact ⟨rfl, rfl⟩ | simp))
theorem ref36Number_any (s : ByteArray) (hs : s.size ≤ 1000000) : Contract Tryz.prog 103 [.sc (.string (s))] [.d (.sc (.int .i64 ((numW s).1))), .d (.sc (.bool (decide ((numW s).2 = 0))))] := by
 refine T.fn [] Tryz.func103 ?_
 refine x_call T.en_137 (refNumRead_any s hs) ?_
 all_goals (refine x_ret ?_; simp only [fitsL, fits, C.asD, and_true] <;> (first | exact ⟨rfl, rfl⟩ | simp))
theorem skQuote_any (s : ByteArray) (hs : s.size ≤ 40) : Contract Tryz.prog 93 [.sc (.string (s))] [.d (.sc (.string (quoteB s)))] := by
 refine T.fn [] Tryz.func93 ?_
 refine x_call T.en_132 (quote_any s hs) ?_
 all_goals (refine x_ret ?_; simp only [fitsL, fits, C.asD, and_true] <;> (rfl))
theorem refQuoted_any (s : ByteArray) (hs : s.size ≤ 1000000) : Contract Tryz.prog 104 [.sc (.string (s))] [.d (.sc (.string ((quotedR s).1))), .d (.sc (.bool ((quotedR s).2)))] := by
 refine T.fn [] Tryz.func104 ?_
 refine x_call T.en_138 (refScan_c s hs) ?_
 refine br (fun hg1 => ?y1) (fun hg1 => ?n1)
 case' y1 =>
  refine x_len ?_
 all_goals (refine x_ret ?_; simp only [fitsL, fits, C.asD, and_true] <;> (unfold quotedR; first | exact ⟨rfl, rfl⟩ | (simp_all; done)))
theorem refCut_any (c : UInt8) (s : ByteArray) (hs : s.size ≤ 1000000) : Contract Tryz.prog 123 [.sc (.string (s)), .sc (.int .u8 ((c.toNat : Nat) : Int))] [.d (.row ((splitW c s).map strD))] := by
 refine T.fn [] Tryz.func123 ?_
 refine xloopR (fb := []) T.ok (Nat.le_of_ble_eq_true rfl) [0, 1] (fun (t : Nat × Nat × List ByteArray) => [(7, .c (.d (.sc (.int .i64 (((t.1 : Nat) : Int)))))), (6, .c (.d (.sc (.int .i64 (((t.2.1 : Nat) : Int)))))), (5, .c (.own 8 9 ((Prod.snd (Prod.snd t)).map strD)))]) (fun t => CutI c s t.1 t.2.1 t.2.2) (fun t => s.size - t.1) (0, 0, []) (CutI.start c s) (x_ent (by first | rfl | (simp only [Tr.get]; simp; done)) (x_ent (by first | rfl | (simp only [Tr.get]; simp; done)) (x_ent (by first | rfl | (simp only [Tr.get]; simp; done)) trivial))) ?_
 rintro t hi
 have hi1 := hi.1
 have hi2 := hi.2.1
 have hi5 := hi.2.2.2.2
 refine x_len ?_
 refine br (fun hc1 => ?y1) (fun hc1 => ?n1)
 case' y1 =>
  obtain ⟨b, hb⟩ : ∃ b, s[t.1]? = some b := ⟨_, getElem?_pos s t.1 (by omega)⟩
  first | refine x_ch (by exact str_ix hb) ?_ | refine x_chI (by exact str_ix hb) ?_
  refine br (fun hc2 => ?y2) (fun hc2 => ?n2)
  case' y2 =>
   have hbc : b = c := by rw [← UInt8.toNat_inj]; omega
   first | refine x_bnd ?_ | refine x_bndI ?_
   first | refine x_bnd ?_ | refine x_bndI ?_
   refine x_str ?_ (h1 := by ((try simp only [List.length_map, List.length_append, List.length_cons, List.length_nil]); omega)) (h2 := by ((try simp only [List.length_map, List.length_append, List.length_cons, List.length_nil]); omega)) (hy := by first | exact strs_snoc | exact rfl | rfl)
   first | refine x_app ?_ (by first | exact str1_wide | exact strsl_wide _ | (intro x hx; cases hx)) (hz := by first | exact strs_snoc | exact rfl | rfl) (h1 := by unfold maxLen; ((try simp only [List.length_map, List.length_append, List.length_cons, List.length_nil]); omega)) (h2 := by ((try simp only [List.length_map, List.length_append, List.length_cons, List.length_nil]); omega)) | refine x_appN ?_ (by first | exact str1_wide | exact strsl_wide _ | (intro x hx; cases hx)) (h1 := by unfold maxLen; ((try simp only [List.length_map, List.length_append, List.length_cons, List.length_nil]); omega)) (h2 := by ((try simp only [List.length_map, List.length_append, List.length_cons, List.length_nil]); omega))
   first | refine x_inc ?_ (h := by ((try simp only [List.length_map, List.length_append, List.length_cons, List.length_nil]); omega)) | refine x_add ?_ (h := by first | exact IntWalk.i64_in _ (by ((try simp only [List.length_map, List.length_append, List.length_cons, List.length_nil]); omega)) | rfl) | refine x_bin rfl rfl ?_
   first | refine x_inc ?_ (h := by ((try simp only [List.length_map, List.length_append, List.length_cons, List.length_nil]); omega)) | refine x_add ?_ (h := by first | exact IntWalk.i64_in _ (by ((try simp only [List.length_map, List.length_append, List.length_cons, List.length_nil]); omega)) | rfl) | refine x_bin rfl rfl ?_
   refine x_rnd (t.1 + 1, t.1 + 1, t.2.2 ++ [s.extract t.2.1 t.1]) (hi.hit (by rw [hb, hbc])) (by (try dsimp only); omega) rfl (x_ent (by first | rfl | (simp only [Tr.get]; simp; done)) (x_ent (by first | rfl | (simp only [Tr.get]; simp; done)) (x_ent (by first | rfl | (simp only [Tr.get]; simp; done)) trivial))) rfl
  case' n2 =>
   have hbc : ¬ b = c := by rintro rfl; exact hc2 rfl
   first | refine x_inc ?_ (h := by ((try simp only [List.length_map, List.length_append, List.length_cons, List.length_nil]); omega)) | refine x_add ?_ (h := by first | exact IntWalk.i64_in _ (by ((try simp only [List.length_map, List.length_append, List.length_cons, List.length_nil]); omega)) | rfl) | refine x_bin rfl rfl ?_
   refine x_rnd (t.1 + 1, t.2.1, t.2.2) (hi.miss hb hbc) (by (try dsimp only); omega) rfl (x_ent (by first | rfl | (simp only [Tr.get]; simp; done)) (x_ent (by first | rfl | (simp only [Tr.get]; simp; done)) (x_ent (by first | rfl | (simp only [Tr.get]; simp; done)) trivial))) rfl
 case' n1 =>
  have he : t.1 = s.size := by omega
  rw [he] at hi
  first | refine x_bnd ?_ | refine x_bndI ?_
  refine x_str ?_ (h1 := by ((try simp only [List.length_map, List.length_append, List.length_cons, List.length_nil]); omega)) (h2 := by ((try simp only [List.length_map, List.length_append, List.length_cons, List.length_nil]); omega)) (hy := by first | exact strs_snoc | exact rfl | rfl)
  first | refine x_app ?_ (by first | exact str1_wide | exact strsl_wide _ | (intro x hx; cases hx)) (hz := by first | exact strs_snoc | exact rfl | rfl) (h1 := by unfold maxLen; ((try simp only [List.length_map, List.length_append, List.length_cons, List.length_nil]); omega)) (h2 := by ((try simp only [List.length_map, List.length_append, List.length_cons, List.length_nil]); omega)) | refine x_appN ?_ (by first | exact str1_wide | exact strsl_wide _ | (intro x hx; cases hx)) (h1 := by unfold maxLen; ((try simp only [List.length_map, List.length_append, List.length_cons, List.length_nil]); omega)) (h2 := by ((try simp only [List.length_map, List.length_append, List.length_cons, List.length_nil]); omega))
 all_goals (refine x_ret ?_; simp only [fitsL, fits, C.asD, and_true] <;> (rw [hi.done]))
end Go.Vm
end
