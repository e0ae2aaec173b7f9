/- Part 4 of what the proof of LensRight stands on: LrAwake, LrLaw, Bridge, LnCells, LensRightWalk. -/
import Derived.Test.YtdhhmbbhhnendaaLensRightM3
set_option linter.unusedVariables false
set_option linter.unusedSimpArgs false
set_option maxHeartbeats 1000000
section
namespace Go.Vm
open Go.RowKit Go.Proofs
set_option maxRecDepth 10000
def rootS : List FieldD := [⟨⟨0, noB, ⟨#[99, 111, 117, 112, 111, 110]⟩⟩, 2, noB, [], 0⟩, ⟨⟨1, noB, ⟨#[110, 111, 116, 101]⟩⟩, 2, noB, [], 0⟩, ⟨⟨1, noB, ⟨#[113, 116, 121]⟩⟩, 1, noB, [], 1⟩, ⟨⟨1, noB, ⟨#[115, 105, 122, 101]⟩⟩, 3, ⟨#[109, 101, 100, 105, 117, 109]⟩, [⟨#[115, 109, 97, 108, 108]⟩, ⟨#[109, 101, 100, 105, 117, 109]⟩, ⟨#[108, 97, 114, 103, 101]⟩], 0⟩, ⟨⟨1, noB, ⟨#[116, 97, 103, 115]⟩⟩, 4, noB, [], 0⟩]
def exQ : LensD := ⟨6, ⟨1, noB, ⟨#[113, 116, 121]⟩⟩, ⟨#[117, 110, 105, 116]⟩, ⟨#[98, 111, 120]⟩, 12, noField, [], []⟩
theorem exQ_ok : okX exQ := ⟨by decide, by decide, by decide⟩
theorem rootS_ok : okL rootS := ⟨by decide, by decide⟩
theorem exQ_ap : (applyS rootS exQ).2 = 0 := by kernel_rfl
theorem exQ_len : (applyS rootS exQ).1.length = 6 := by kernel_rfl
theorem exQ_find : (findS (applyS rootS exQ).1 ⟨1, noB, ⟨#[98, 111, 120]⟩⟩).2 = 0 := by kernel_rfl
theorem exQ_worth : (findS (applyS rootS exQ).1 ⟨1, noB, ⟨#[98, 111, 120]⟩⟩).1.worth = 12 := by kernel_rfl
theorem exQ_okS : okL (applyS rootS exQ).1 := by
  have h : (applyS rootS exQ).1.all (fun f => decide (f.cases.length ≤ 1000000)) = true := by kernel_rfl
  exact ⟨by rw [exQ_len]; decide, fun f hf => by simpa using List.all_eq_true.1 h f hf⟩
def lensU (x : LensD) (n : Nat) : List D := [.sc (.int .i64 x.kind), .sc (.int .i64 x.at_.scope), .sc (.string x.at_.group), .sc (.string x.at_.name), .sc (.string x.name), .sc (.string x.other), .sc (.int .i64 x.factor),
  .sc (.int .i64 x.field.at_.scope), .sc (.string x.field.at_.group), .sc (.string x.field.at_.name), .sc (.int .i64 x.field.kind), .sc (.string x.field.deft), .row (x.field.cases.map strD), .sc (.int .i64 x.field.worth), .rr 500000 2 n, .row (x.back.map pairD)]
theorem lensU_rr (x : LensD) (m : Nat) : ∀ i sz' n, .rr i sz' n ∈ lensU x m → i = 500000 := by
  intro i sz' n h; simp [lensU] at h; exact h.1
def exx : ByteArray := ⟨#[120]⟩
def markP (p : ByteArray × ByteArray) : ByteArray × ByteArray := (p.1 ++ exx, p.2)
def marked (l : List (ByteArray × ByteArray)) (k : Nat) : List (ByteArray × ByteArray) := (l.take k).map markP ++ l.drop k
theorem marked_len (l : List (ByteArray × ByteArray)) (k : Nat) : (marked l k).length = l.length := by unfold marked; simp only [List.length_append, List.length_map, List.length_take, List.length_drop]; omega
theorem flat_pairs (l : List (ByteArray × ByteArray)) : (flat (l.map pairD)).length = l.length * 2 := by
  have := flat_length (sz := 2) (xs := l.map pairD) pairs_wide
  rwa [List.length_map] at this
theorem marked_next {l : List (ByteArray × ByteArray)} {k : Nat} {p : ByteArray × ByteArray} (hp : l[k]? = some p) : flat ((marked l (k + 1)).map pairD) = patch (flat ((marked l k).map pairD)) (k * 2 + 0) [.sc (.string (p.1 ++ exx))] := by
  have hlt := (List.getElem?_eq_some_iff.1 hp).1
  have e1 : marked l (k + 1) = (l.take k).map markP ++ markP p :: l.drop (k + 1) := by
    unfold marked; rw [List.take_add_one, hp]; simp
  have e2 : marked l k = (l.take k).map markP ++ p :: l.drop (k + 1) := by
    unfold marked
    obtain ⟨_, hpe⟩ := List.getElem?_eq_some_iff.1 hp
    rw [← hpe, ← List.drop_eq_getElem_cons hlt]
  have h1 : (flat (((l.take k).map markP).map pairD)).length = k * 2 := by rw [flat_pairs, List.length_map, List.length_take, Nat.min_eq_left (by omega)]
  rw [e1, e2]
  simp only [List.map_append, List.map_cons, flat_append]
  generalize flat (((l.take k).map markP).map pairD) = u at *
  have e3 : ∀ (q : ByteArray × ByteArray) (r : List D), flat (pairD q :: r) = .sc (.string q.1) :: .sc (.string q.2) :: flat r := fun q r => rfl
  rw [e3, e3]
  unfold patch
  rw [Nat.add_zero, ← h1]
  simp [markP, List.drop_append]
theorem heavyP_at {l : List (ByteArray × ByteArray)} (h : heavyP l = false) {k : Nat} {p : ByteArray × ByteArray} (hp : l[k]? = some p) : p.1.size ≤ 200 := by
  unfold heavyP at h
  simp only [Bool.or_eq_false_iff, decide_eq_false_iff_not, List.any_eq_false, Bool.or_eq_true, decide_eq_true_eq, not_or] at h
  have := h.2 p (List.mem_of_getElem? hp); omega
theorem heavyL_forth {x : LensD} (h : heavyL x = false) : heavyP x.forth = false := by
  unfold heavyL at h; simp only [Bool.or_eq_false_iff] at h; exact h.1.2
theorem goes_len2 (x : LensD) : (goesL x).length ≤ 2 := by unfold goesL; (repeat' split) <;> simp
theorem gl_len (x : LensD) : (if rightL x = true then goesL x else []).length ≤ 1000 := by have := goes_len2 x; split <;> first | omega | simp
theorem comes_len2 (x : LensD) : (comesL x).length ≤ 2 := by unfold comesL; (repeat' split) <;> simp
theorem cl_len (x : LensD) : (if rightL x = true then comesL x else []).length ≤ 1000 := by have := comes_len2 x; split <;> first | omega | simp
theorem refSchemaRoot_any  : Contract Try.prog 17 [] [.d (.row (rootS.map fD))] := by
 refine T.fn [] Try.func17 ?_
 first | refine x_app ?_ (by first | exact wides | (simp [D.cells])) | refine x_appN ?_ (by first | exact wides | (simp [D.cells]))
 first | refine x_app ?_ (by first | exact wides | (simp [D.cells])) | refine x_appN ?_ (by first | exact wides | (simp [D.cells]))
 first | refine x_app ?_ (by first | exact wides | (simp [D.cells])) | refine x_appN ?_ (by first | exact wides | (simp [D.cells]))
 first | refine x_app ?_ (by first | exact wides | (simp [D.cells])) | refine x_appN ?_ (by first | exact wides | (simp [D.cells]))
 first | refine x_app ?_ (by first | exact wides | (simp [D.cells])) | refine x_appN ?_ (by first | exact wides | (simp [D.cells]))
 all_goals (refine x_ret ?_; simp only [fitsL, fits, C.asD, and_true] <;> (rfl))
theorem lensAwake_any  : Contract Try.prog 4 [] [.d (.sc (.bool (true)))] := by
 refine T.fn [] Try.func4 ?_
 refine x_call T.en_17 (refSchemaRoot_any) ?_
 refine x_call T.en_16 (apply_any rootS exQ rootS_ok exQ_ok) ?_
 refine x_call T.en_18 (schemaFind_any (applyS rootS exQ).1 ⟨1, noB, ⟨#[98, 111, 120]⟩⟩ exQ_okS) ?_
 refine br (fun hg1 => ?y1) (fun hg1 => ?n1)
 case' y1 =>
  refine br (fun hg2 => ?y2) (fun hg2 => ?n2)
  case' y2 =>
   refine x_len ?_
   refine br (fun hg3 => ?y3) (fun hg3 => ?n3)
   case' n3 =>
    exfalso; have h1 := exQ_ap; have h2 := exQ_find; have h3 := exQ_len; simp_all
  case' n2 =>
   exfalso; have h1 := exQ_ap; have h2 := exQ_find; simp_all
 case' n1 =>
  exact absurd exQ_ap hg1
 all_goals (refine x_ret ?_; simp only [fitsL, fits, C.asD, and_true] <;> (refine scb ?_; first | (rw [exQ_worth]; done) | (simp [exQ_worth, exQ_ap, exQ_find, exQ_len]; done) | (exfalso; have h1 := exQ_ap; have h2 := exQ_find; have h3 := exQ_len; simp_all; done)))
theorem refSameRefs_any (l m : List RefD) (hl : l.length ≤ 1000) : Contract Try.prog 12 [.row (l.map rD), .row (m.map rD)] [.d (.sc (.bool (decide (l = m))))] := by
 refine T.fn [] Try.func12 ?_
 refine x_len ?_
 refine x_len ?_
 refine br (fun hc1 => ?y1) (fun hc1 => ?n1)
 case' n1 =>
  have hlen : l.length = m.length := by omega
  refine xloopR (fb := []) T.ok (Nat.le_of_ble_eq_true rfl) [0, 1] (fun (k : Nat) => [(5, .c (.d (.sc (.int .i64 (k : Nat)))))]) (fun k => k ≤ l.length ∧ l.take k = m.take k) (fun k => l.length - k) 0 ⟨Nat.zero_le _, rfl⟩ (x_ent (by first | rfl | (simp only [Tr.get]; simp; done)) trivial) ?_
  rintro k ⟨hk, hi⟩
  refine x_len ?_
  refine br (fun hc2 => ?y2) (fun hc2 => ?n2)
  case' y2 =>
   obtain ⟨p, hp⟩ := elem_at hc2
   have hkl := lt_len hp
   obtain ⟨q, hq⟩ := elem_too hp hlen
   refine And.intro ⟨T.mixed, by decide +kernel⟩ ?_
   first | refine x_ix (by first | exact mapAt hp | exact mapAt hq) ?_ | refine x_ixI (by first | exact mapAt hp | exact mapAt hq) ?_
   first | refine x_ix (by first | exact mapAt hp | exact mapAt hq) ?_ | refine x_ixI (by first | exact mapAt hp | exact mapAt hq) ?_
   first | refine xeq_23n _ _ ?_ | refine xeq_23n _ noRef ?_ | refine xeq_23n noRef _ ?_
   refine br (fun hc3 => ?y3) (fun hc3 => ?n3)
   case' n3 =>
    first | refine x_inc ?_ | refine x_add ?_ | refine x_bin rfl rfl ?_
    refine x_rnd (k + 1) ⟨lt_len hp, take_eq_next hp hq hi (by simp_all)⟩ (by (try dsimp only); have := lt_len hp; omega) rfl (x_ent (by first | rfl | (simp only [Tr.get]; simp; done)) trivial) rfl
 all_goals (refine x_ret ?_; simp only [fitsL, fits, C.asD, and_true] <;> (refine scb ?_; first | exact (decide_eq_false (fun e => by simp_all)).symm | exact (decide_eq_false (ne_at hp hq (fun e => by simp_all))).symm | exact (decide_eq_true (take_eq_end hlen (past_end (by assumption)) hi)).symm))
theorem lensOwnU (x : LensD) (hx0 : okX x) : ContractU Try.prog 15 [lD x] 500000 2 (x.forth.map pairD) (lensU x x.forth.length) := by
 have hl1 := hx0.2.1
 have hl2 := hx0.2.2
 refine xfnU T.ok (r := 2) (T := 29) [15, 2009] Try.func15 (lensU_rr x _) (shI_ok (T.ok 29 _ rfl)) ?_
 refine x_call T.en_41 (fieldOwn_any _ hx0.1) ?_
 refine x_toU 1 rfl ?_
 refine x_toU 2 rfl ?_
 refine x_appU (m := x.forth.length) 500000 (T.ok 27 _ rfl).2.1 rfl pairs_wide (by rw [List.length_map]; unfold maxLen; omega) (by rw [List.length_map]; omega) (List.length_map ..) ?_
 first | refine x_app ?_ (by first | exact strs_wide | exact pairs_wide | exact rs_wide | exact fD_wide | (simp [D.cells])) | refine x_appN ?_ (by first | exact strs_wide | exact pairs_wide | exact rs_wide | exact fD_wide | (simp [D.cells]))
 refine x_loadA (m := 16) (off := 0) (ys := lensU x x.forth.length) (tv := 1) (cs := lensU x x.forth.length) rfl rfl (shI_ok (T.ok 29 _ rfl)) (Nat.le_refl 16) rfl ?_
 exact ⟨rfl, rfl⟩
end Go.Vm
end
section
namespace Go.Vm
open Go.RowKit Go.Proofs
set_option maxRecDepth 10000
theorem lensRightLaw_any (x y : LensD) : Contract Try.prog 3 [lD x, lD y] [.d (.sc (.bool (true)))] := by
 refine T.fn [65, 67, 72, 87, 88, 2006, 2064] Try.func3 ?_
 refine x_call T.en_4 (lensAwake_any) ?_
 refine br (fun hc1 => ?y1) (fun hc1 => ?n1)
 case' y1 =>
  exact absurd hc1 (by simp)
 case' n1 =>
  refine x_call T.en_5 (refLensHeavy_any _) ?_
  refine br (fun hg2 => ?y2) (fun hg2 => ?n2)
  case' y2 =>
   refine brT ?_
  case' n2 =>
   refine x_call T.en_5 (refLensHeavy_any _) ?_
   refine br (fun hc4 => ?y4) (fun hc4 => ?n4)
   case' n4 =>
    have hh1 : heavyL x = false := by simp_all
    have hx0 := heavyL_ok hh1
    have hhp := heavyL_forth hh1
    have hfl := hx0.2.1
    refine x_call T.en_6 (refLensRight_any x hx0) ?_
    refine And.intro ⟨T.mixed, by decide +kernel⟩ ?_
    refine x_call T.en_7 (lensRight_any x hx0) ?_
    first | refine x_bin (pr_neb Try.underlying4) rfl ?_ | refine x_bin rfl rfl ?_
    refine br (fun hg5 => ?y5) (fun hg5 => ?n5)
    case' y5 =>
     refine brT ?_
    case' n5 =>
     refine x_call T.en_8 (lensSame_any x y hx0) ?_
     refine x_call T.en_9 (refLensSame_any x y hx0) ?_
     first | refine x_bin (pr_neb Try.underlying4) rfl ?_ | refine x_bin rfl rfl ?_
     refine br (fun hc7 => ?y7) (fun hc7 => ?n7)
     case' n7 =>
      refine And.intro ⟨T.mixed, by decide +kernel⟩ ?_
      refine br (fun hg8 => ?y8) (fun hg8 => ?n8)
      case' y8 =>
       refine x_call T.en_10 (lensGoes_any x hx0) ?_
       refine x_len ?_
       refine x_call T.en_11 (lensComes_any x hx0) ?_
       refine x_len ?_
       first | refine x_inc ?_ | refine x_add ?_ | refine x_bin rfl rfl ?_
       refine br (fun hg9 => ?y9) (fun hg9 => ?n9)
       case' y9 =>
        refine brT ?_
       case' n9 =>
        refine br (fun hg11 => ?y11) (fun hg11 => ?n11)
        case' y11 =>
         refine x_call T.en_10 (lensGoes_any x hx0) ?_
         refine x_call T.en_13 (refGoes_any x) ?_
         refine x_call T.en_12 (refSameRefs_any _ _ (by first | exact gl_len x | exact cl_len x)) ?_
         refine br (fun hg12 => ?y12) (fun hg12 => ?n12)
         case' y12 =>
          refine brT ?_
         case' n12 =>
          refine x_call T.en_11 (lensComes_any x hx0) ?_
          refine x_call T.en_14 (refComes_any x) ?_
          refine x_call T.en_12 (refSameRefs_any _ _ (by first | exact gl_len x | exact cl_len x)) ?_
          refine br (fun hc14 => ?y14) (fun hc14 => ?n14)
          case' n14 =>
           refine x_callU 500000 T.en_15 (lensOwnU x hx0) (lensU_rr x _) ?_
           refine x_allocU [] (T.k_29).2.2 (by simp) (by simp) ?_
           refine x_loadA (m := 16) (off := 0) (ys := lensU x x.forth.length) (tv := 6) (cs := lensU x x.forth.length) rfl rfl (shI_ok (T.ok 29 _ rfl)) (Nat.le_refl 16) rfl ?_
           refine x_callP (id := 500000) (sz := 2) (xs := x.forth.map pairD) (cs := lensU x x.forth.length) T.en_9 (refLensSame_any x x hx0) rfl rfl (by simp [lensU, frzC]) rfl rfl ?_
           refine br (fun hc15 => ?y15) (fun hc15 => ?n15)
           case' n15 =>
            refine xloopR (fb := [65, 67, 72, 87, 88, 2006, 2064]) T.ok (Nat.le_of_ble_eq_true rfl) [2, 6] (fun (k : Nat) => [(7, .c (.d (.sc (.int .i64 (k : Nat))))), (500000, .gbox 2 ((marked x.forth k).map pairD))]) (fun k => k ≤ x.forth.length) (fun k => x.forth.length - k) 0 (Nat.zero_le _) (x_ent (by first | rfl | (simp only [Tr.get]; simp; done)) (x_ent (by first | rfl | (simp only [Tr.get]; simp; done)) trivial)) ?_
            rintro k hk
            refine x_lenG Try.underlying27 rfl ?_
            refine br (fun hc16 => ?y16) (fun hc16 => ?n16)
            case' y16 =>
             obtain ⟨p, hp⟩ : ∃ p, x.forth[k]? = some p := ⟨_, List.getElem?_eq_getElem (by omega)⟩
             have hps := heavyP_at hhp hp
             first | refine x_ix (by exact mapAt hp) ?_ | refine x_ixI (by exact mapAt hp) ?_
             refine x_cat ?_ (by show p.1.size + 1 ≤ _; omega)
             refine x_indexG (i := k) rfl rfl (by kernel_rfl) (lt_len hp) ?_
             refine x_fieldG (k := 0) rfl (by kernel_rfl) ?_
             refine x_stG (id := 500000) (sz := 2) (off := k * 2 + 0) (rc := [.sc (.string (p.1 ++ exx))]) ((marked x.forth k).map pairD) ((marked x.forth (k + 1)).map pairD) rfl rfl (by rw [List.length_map, marked_len]; have := lt_len hp; simp only [List.length_cons, List.length_nil]; omega) (by intro e; have h8 := congrArg List.length e; rw [List.length_map, marked_len] at h8; have := lt_len hp; simp only [List.length_nil] at h8; omega) (marked_next hp) (by simp [marked_len]) pairs_wide ?_
             refine And.intro ⟨T.mixed, by decide +kernel⟩ ?_
             first | refine x_ix (by exact mapAt hp) ?_ | refine x_ixI (by exact mapAt hp) ?_
             refine xeq_38n _ _ ?_
             refine br (fun hc17 => ?y17) (fun hc17 => ?n17)
             case' n17 =>
              first | refine x_inc ?_ | refine x_add ?_ | refine x_bin rfl rfl ?_
              refine x_rnd (k + 1) (lt_len hp) (by (try dsimp only); have := lt_len hp; omega) rfl (x_ent (by first | rfl | (simp only [Tr.get]; simp; done)) (x_ent (by first | rfl | (simp only [Tr.get]; simp; done)) trivial)) rfl
        case' n11 =>
         refine brF ?_
         refine x_callU 500000 T.en_15 (lensOwnU x hx0) (lensU_rr x _) ?_
         refine x_allocU [] (T.k_29).2.2 (by simp) (by simp) ?_
         refine x_loadA (m := 16) (off := 0) (ys := lensU x x.forth.length) (tv := 6) (cs := lensU x x.forth.length) rfl rfl (shI_ok (T.ok 29 _ rfl)) (Nat.le_refl 16) rfl ?_
         refine x_callP (id := 500000) (sz := 2) (xs := x.forth.map pairD) (cs := lensU x x.forth.length) T.en_9 (refLensSame_any x x hx0) rfl rfl (by simp [lensU, frzC]) rfl rfl ?_
         refine br (fun hc19 => ?y19) (fun hc19 => ?n19)
         case' n19 =>
          refine xloopR (fb := [65, 67, 72, 87, 88, 2006, 2064]) T.ok (Nat.le_of_ble_eq_true rfl) [2, 6] (fun (k : Nat) => [(7, .c (.d (.sc (.int .i64 (k : Nat))))), (500000, .gbox 2 ((marked x.forth k).map pairD))]) (fun k => k ≤ x.forth.length) (fun k => x.forth.length - k) 0 (Nat.zero_le _) (x_ent (by first | rfl | (simp only [Tr.get]; simp; done)) (x_ent (by first | rfl | (simp only [Tr.get]; simp; done)) trivial)) ?_
          rintro k hk
          refine x_lenG Try.underlying27 rfl ?_
          refine br (fun hc20 => ?y20) (fun hc20 => ?n20)
          case' y20 =>
           obtain ⟨p, hp⟩ : ∃ p, x.forth[k]? = some p := ⟨_, List.getElem?_eq_getElem (by omega)⟩
           have hps := heavyP_at hhp hp
           first | refine x_ix (by exact mapAt hp) ?_ | refine x_ixI (by exact mapAt hp) ?_
           refine x_cat ?_ (by show p.1.size + 1 ≤ _; omega)
           refine x_indexG (i := k) rfl rfl (by kernel_rfl) (lt_len hp) ?_
           refine x_fieldG (k := 0) rfl (by kernel_rfl) ?_
           refine x_stG (id := 500000) (sz := 2) (off := k * 2 + 0) (rc := [.sc (.string (p.1 ++ exx))]) ((marked x.forth k).map pairD) ((marked x.forth (k + 1)).map pairD) rfl rfl (by rw [List.length_map, marked_len]; have := lt_len hp; simp only [List.length_cons, List.length_nil]; omega) (by intro e; have h8 := congrArg List.length e; rw [List.length_map, marked_len] at h8; have := lt_len hp; simp only [List.length_nil] at h8; omega) (marked_next hp) (by simp [marked_len]) pairs_wide ?_
           refine And.intro ⟨T.mixed, by decide +kernel⟩ ?_
           first | refine x_ix (by exact mapAt hp) ?_ | refine x_ixI (by exact mapAt hp) ?_
           refine xeq_38n _ _ ?_
           refine br (fun hc21 => ?y21) (fun hc21 => ?n21)
           case' n21 =>
            first | refine x_inc ?_ | refine x_add ?_ | refine x_bin rfl rfl ?_
            refine x_rnd (k + 1) (lt_len hp) (by (try dsimp only); have := lt_len hp; omega) rfl (x_ent (by first | rfl | (simp only [Tr.get]; simp; done)) (x_ent (by first | rfl | (simp only [Tr.get]; simp; done)) trivial)) rfl
      case' n8 =>
       refine brF ?_
       refine br (fun hg23 => ?y23) (fun hg23 => ?n23)
       case' y23 =>
        refine x_call T.en_10 (lensGoes_any x hx0) ?_
        refine x_call T.en_13 (refGoes_any x) ?_
        refine x_call T.en_12 (refSameRefs_any _ _ (by first | exact gl_len x | exact cl_len x)) ?_
        refine br (fun hg24 => ?y24) (fun hg24 => ?n24)
        case' y24 =>
         refine brT ?_
        case' n24 =>
         refine x_call T.en_11 (lensComes_any x hx0) ?_
         refine x_call T.en_14 (refComes_any x) ?_
         refine x_call T.en_12 (refSameRefs_any _ _ (by first | exact gl_len x | exact cl_len x)) ?_
         refine br (fun hc26 => ?y26) (fun hc26 => ?n26)
         case' n26 =>
          refine x_callU 500000 T.en_15 (lensOwnU x hx0) (lensU_rr x _) ?_
          refine x_allocU [] (T.k_29).2.2 (by simp) (by simp) ?_
          refine x_loadA (m := 16) (off := 0) (ys := lensU x x.forth.length) (tv := 6) (cs := lensU x x.forth.length) rfl rfl (shI_ok (T.ok 29 _ rfl)) (Nat.le_refl 16) rfl ?_
          refine x_callP (id := 500000) (sz := 2) (xs := x.forth.map pairD) (cs := lensU x x.forth.length) T.en_9 (refLensSame_any x x hx0) rfl rfl (by simp [lensU, frzC]) rfl rfl ?_
          refine br (fun hc27 => ?y27) (fun hc27 => ?n27)
          case' n27 =>
           refine xloopR (fb := [65, 67, 72, 87, 88, 2006, 2064]) T.ok (Nat.le_of_ble_eq_true rfl) [2, 6] (fun (k : Nat) => [(7, .c (.d (.sc (.int .i64 (k : Nat))))), (500000, .gbox 2 ((marked x.forth k).map pairD))]) (fun k => k ≤ x.forth.length) (fun k => x.forth.length - k) 0 (Nat.zero_le _) (x_ent (by first | rfl | (simp only [Tr.get]; simp; done)) (x_ent (by first | rfl | (simp only [Tr.get]; simp; done)) trivial)) ?_
           rintro k hk
           refine x_lenG Try.underlying27 rfl ?_
           refine br (fun hc28 => ?y28) (fun hc28 => ?n28)
           case' y28 =>
            obtain ⟨p, hp⟩ : ∃ p, x.forth[k]? = some p := ⟨_, List.getElem?_eq_getElem (by omega)⟩
            have hps := heavyP_at hhp hp
            first | refine x_ix (by exact mapAt hp) ?_ | refine x_ixI (by exact mapAt hp) ?_
            refine x_cat ?_ (by show p.1.size + 1 ≤ _; omega)
            refine x_indexG (i := k) rfl rfl (by kernel_rfl) (lt_len hp) ?_
            refine x_fieldG (k := 0) rfl (by kernel_rfl) ?_
            refine x_stG (id := 500000) (sz := 2) (off := k * 2 + 0) (rc := [.sc (.string (p.1 ++ exx))]) ((marked x.forth k).map pairD) ((marked x.forth (k + 1)).map pairD) rfl rfl (by rw [List.length_map, marked_len]; have := lt_len hp; simp only [List.length_cons, List.length_nil]; omega) (by intro e; have h8 := congrArg List.length e; rw [List.length_map, marked_len] at h8; have := lt_len hp; simp only [List.length_nil] at h8; omega) (marked_next hp) (by simp [marked_len]) pairs_wide ?_
            refine And.intro ⟨T.mixed, by decide +kernel⟩ ?_
            first | refine x_ix (by exact mapAt hp) ?_ | refine x_ixI (by exact mapAt hp) ?_
            refine xeq_38n _ _ ?_
            refine br (fun hc29 => ?y29) (fun hc29 => ?n29)
            case' n29 =>
             first | refine x_inc ?_ | refine x_add ?_ | refine x_bin rfl rfl ?_
             refine x_rnd (k + 1) (lt_len hp) (by (try dsimp only); have := lt_len hp; omega) rfl (x_ent (by first | rfl | (simp only [Tr.get]; simp; done)) (x_ent (by first | rfl | (simp only [Tr.get]; simp; done)) trivial)) rfl
       case' n23 =>
        refine brF ?_
        refine x_callU 500000 T.en_15 (lensOwnU x hx0) (lensU_rr x _) ?_
        refine x_allocU [] (T.k_29).2.2 (by simp) (by simp) ?_
        refine x_loadA (m := 16) (off := 0) (ys := lensU x x.forth.length) (tv := 6) (cs := lensU x x.forth.length) rfl rfl (shI_ok (T.ok 29 _ rfl)) (Nat.le_refl 16) rfl ?_
        refine x_callP (id := 500000) (sz := 2) (xs := x.forth.map pairD) (cs := lensU x x.forth.length) T.en_9 (refLensSame_any x x hx0) rfl rfl (by simp [lensU, frzC]) rfl rfl ?_
        refine br (fun hc31 => ?y31) (fun hc31 => ?n31)
        case' n31 =>
         refine xloopR (fb := [65, 67, 72, 87, 88, 2006, 2064]) T.ok (Nat.le_of_ble_eq_true rfl) [2, 6] (fun (k : Nat) => [(7, .c (.d (.sc (.int .i64 (k : Nat))))), (500000, .gbox 2 ((marked x.forth k).map pairD))]) (fun k => k ≤ x.forth.length) (fun k => x.forth.length - k) 0 (Nat.zero_le _) (x_ent (by first | rfl | (simp only [Tr.get]; simp; done)) (x_ent (by first | rfl | (simp only [Tr.get]; simp; done)) trivial)) ?_
         rintro k hk
         refine x_lenG Try.underlying27 rfl ?_
         refine br (fun hc32 => ?y32) (fun hc32 => ?n32)
         case' y32 =>
          obtain ⟨p, hp⟩ : ∃ p, x.forth[k]? = some p := ⟨_, List.getElem?_eq_getElem (by omega)⟩
          have hps := heavyP_at hhp hp
          first | refine x_ix (by exact mapAt hp) ?_ | refine x_ixI (by exact mapAt hp) ?_
          refine x_cat ?_ (by show p.1.size + 1 ≤ _; omega)
          refine x_indexG (i := k) rfl rfl (by kernel_rfl) (lt_len hp) ?_
          refine x_fieldG (k := 0) rfl (by kernel_rfl) ?_
          refine x_stG (id := 500000) (sz := 2) (off := k * 2 + 0) (rc := [.sc (.string (p.1 ++ exx))]) ((marked x.forth k).map pairD) ((marked x.forth (k + 1)).map pairD) rfl rfl (by rw [List.length_map, marked_len]; have := lt_len hp; simp only [List.length_cons, List.length_nil]; omega) (by intro e; have h8 := congrArg List.length e; rw [List.length_map, marked_len] at h8; have := lt_len hp; simp only [List.length_nil] at h8; omega) (marked_next hp) (by simp [marked_len]) pairs_wide ?_
          refine And.intro ⟨T.mixed, by decide +kernel⟩ ?_
          first | refine x_ix (by exact mapAt hp) ?_ | refine x_ixI (by exact mapAt hp) ?_
          refine xeq_38n _ _ ?_
          refine br (fun hc33 => ?y33) (fun hc33 => ?n33)
          case' n33 =>
           first | refine x_inc ?_ | refine x_add ?_ | refine x_bin rfl rfl ?_
           refine x_rnd (k + 1) (lt_len hp) (by (try dsimp only); have := lt_len hp; omega) rfl (x_ent (by first | rfl | (simp only [Tr.get]; simp; done)) (x_ent (by first | rfl | (simp only [Tr.get]; simp; done)) trivial)) rfl
 all_goals (refine x_ret ?_; simp only [fitsL, fits, C.asD, and_true] <;> (first | rfl | (refine scb ?_; simp_all; done) | (exfalso; simp_all; exact absurd ‹0 < IntKind.i64.wrap 0› (by decide))))
end Go.Vm
end
section
namespace Go.Vm
open Go.RowKit
def allFrozen : Roles := fun _ => .frozen
theorem okFrozen (b off : Nat) : okAt allFrozen b off := trivial
section
variable {P : Program} {w : World}
def Cells (P : Program) (w : World) (t : TypeId) {α : Type} (enc : α → D) (ok : α → Prop) : Prop := ∀ es, Reads P w t es → ∃ x : α, Reps allFrozen w es (enc x).cells ∧ ok x
theorem cells_at : ∀ {ess : List (List Value)} {b off sz : Nat}, (∀ (i : Nat) (es : List Value), ess[i]? = some es → es.length = sz ∧ ∀ (j : Nat) (u : Value), es[j]? = some u → w.cell? ⟨b, off + i * sz + j, none⟩ = some u) →
    ess.flatten.length = ess.length * sz ∧ ∀ (j : Nat) (u : Value), ess.flatten[j]? = some u → w.cell? ⟨b, off + j, none⟩ = some u
  | [], b, off, sz, _ => ⟨by simp, by simp⟩
  | es :: ess, b, off, sz, h => by
    obtain ⟨h0, h1⟩ := h 0 es rfl
    obtain ⟨k0, k1⟩ := cells_at (ess := ess) (b := b) (off := off + sz) (sz := sz) (fun i es' hes => by
      obtain ⟨g0, g1⟩ := h (i + 1) es' (by simpa using hes)
      refine ⟨g0, fun j u hu => ?_⟩
      have := g1 j u hu
      rw [Nat.add_mul, Nat.one_mul] at this
      rw [show off + sz + i * sz + j = off + (i * sz + sz) + j by omega]; exact this)
    refine ⟨by rw [List.flatten_cons, List.length_append, k0, h0, List.length_cons, Nat.add_mul, Nat.one_mul, Nat.add_comm], fun j u hu => ?_⟩
    rw [List.flatten_cons] at hu
    by_cases hj : j < es.length
    · rw [List.getElem?_append_left hj] at hu
      have := h1 j u hu
      simpa using this
    · rw [List.getElem?_append_right (by omega)] at hu
      have := k1 (j - es.length) u hu
      rw [h0] at this
      rw [show off + j = off + sz + (j - sz) by omega]; exact this
theorem reps_flat {α : Type} {enc : α → D} : ∀ {ps : List (List Value × α)}, (∀ p ∈ ps, Reps allFrozen w p.1 (enc p.2).cells) → Reps allFrozen w (ps.map (·.1)).flatten (flat ((ps.map (·.2)).map enc))
  | [], _ => by simpa [flat] using Reps.nil
  | p :: ps, h => by
    have h1 := h p (List.mem_cons_self ..)
    have h2 := reps_flat (ps := ps) fun q hq => h q (List.mem_cons_of_mem _ hq)
    simp only [List.map_cons, List.flatten_cons, flat, List.flatMap_cons] at h2 ⊢
    exact h1.append h2
theorem row_of {t e : TypeId} {sz : Nat} {α : Type} {enc : α → D} {ok : α → Prop} (ht : P.underlying t = some (.slice e)) (hsz : P.cellsOf e = sz) (h0 : 0 < sz) (hw : ∀ x, (enc x).cells.length = sz) (hel : Cells P w e enc ok) {a : Option Addr} {l c : Nat} (h : Reads P w t [.slice a l c]) :
    ∃ xs : List α, Rep allFrozen w (.slice a l c) (.row (xs.map enc)) ∧ ∀ x ∈ xs, ok x := by
  rcases h.slice ht with h | ⟨ad, len, cap, h, h1, h2, h3⟩
  · injection h with h; injection h with h4 h5 h6
    subst h4 h5 h6
    exact ⟨[], .nil (by simp [maxLen]), by simp⟩
  · injection h with h; injection h with h4 h5 h6
    subst h4 h5 h6
    rw [hsz] at h3
    obtain ⟨ps, hl, hp⟩ := choose_list (Q := fun i (p : List Value × α) => p.1.length = sz ∧ (∀ j (hj : j < p.1.length), w.cell? ((ad.add (i * sz)).add j) = some p.1[j]) ∧ Reps allFrozen w p.1 (enc p.2).cells ∧ ok p.2) l (fun i hi => by
      obtain ⟨es, q1, q2, q3⟩ := h3 i hi
      obtain ⟨x, hx, hok⟩ := hel es q3
      exact ⟨(es, x), q1, q2, hx, hok⟩)
    by_cases hz : l = 0
    · subst hz
      obtain rfl : ps = [] := List.length_eq_zero_iff.1 hl
      exact ⟨[], .nil h2, by simp⟩
    · have hlt : 0 < ps.length := by omega
      have had : ad = ⟨ad.block, ad.off, none⟩ := by
        obtain ⟨q1, q2, _⟩ := hp 0 hlt
        have := q2 0 (by omega)
        have e0 : (ad.add (0 * sz)).add 0 = ad := by simp [Addr.add]
        rw [e0] at this
        exact addr_of_cell this
      have hcells := cells_at (w := w) (ess := ps.map (·.1)) (b := ad.block) (off := ad.off) (sz := sz) (fun i es hes => by
        rw [List.getElem?_map] at hes
        cases hpi : ps[i]? with
        | none => rw [hpi] at hes; cases hes
        | some p =>
          rw [hpi] at hes
          simp only [Option.map_some, Option.some.injEq] at hes
          subst hes
          obtain ⟨hi, rfl⟩ := List.getElem?_eq_some_iff.1 hpi
          obtain ⟨q1, q2, _⟩ := hp i hi
          refine ⟨q1, fun j u hu => ?_⟩
          obtain ⟨hj, rfl⟩ := List.getElem?_eq_some_iff.1 hu
          have := q2 j hj
          rw [had, add_spot, add_spot] at this
          exact this)
      have hmem : ∀ p ∈ ps, Reps allFrozen w p.1 (enc p.2).cells ∧ ok p.2 := by
        intro p hpm
        obtain ⟨i, hi, rfl⟩ := List.getElem_of_mem hpm
        exact (hp i hi).2.2
      have hr := reps_flat (enc := enc) (fun p hpm => (hmem p hpm).1)
      refine ⟨ps.map (·.2), ?_, fun x hx => ?_⟩
      · have hlen : ((ps.map (·.2)).map enc).length = l := by simp [hl]
        rw [had]
        have := Rep.row (ro := allFrozen) (w := w) (b := ad.block) (off := ad.off) (cap := c) (sz := sz) (xs := (ps.map (·.2)).map enc) (ps.map (·.1)).flatten h0 (by rw [hlen]; exact h1) h2 (by rw [hcells.1, hlen]; simp [hl]) (fun x hx => by obtain ⟨y, _, rfl⟩ := List.mem_map.1 hx; exact hw y) hr.2.1 (fun j u hu => ⟨hcells.2 j u hu, okFrozen _ _⟩) hr.2.2
        rw [hlen] at this
        exact this
      · obtain ⟨p, hpm, rfl⟩ := List.mem_map.1 hx
        exact (hmem p hpm).2
theorem law_true {f : FuncId} {args : List D} {vs : Array Value} (hc : Contract P f args [.d (.sc (.bool true))]) (hl : vs.size = args.length) (hr : ∀ (i : Nat) (v : Value) (d : D), vs.toList[i]? = some v → args[i]? = some d → Rep allFrozen w v d) :
    Calls P f vs w fun e w' => e = .returned (.bool true) ∧ Below w.heap.size w w' := by
  refine (hc allFrozen w vs 0 (fun _ _ => rfl) (fun _ _ _ _ _ h => by cases h) hl hr).mono ?_
  rintro e w' ⟨v, ro', rfl, hg, hs⟩
  have : v = .bool true := (rep_sc (show Rep ro' w' v (.sc (.bool true)) from hs)).1
  exact ⟨by rw [this], hg.below⟩
end
end Go.Vm
end
section
namespace Go.Vm
open Go.RowKit Go.Proofs
set_option maxRecDepth 10000
open Go.RowKit
section
variable {P : Program} {w : World}
theorem reps_cut {ro : Roles} {es : List Value} {o k : Nat} {c d : List D} (h1 : Reps ro w ((es.drop o).take k) c) (h2 : Reps ro w (es.drop (o + k)) d) : Reps ro w (es.drop o) (c ++ d) := by
  have h := h1.append h2
  rwa [← List.drop_drop, List.take_append_drop] at h
theorem reps_end {ro : Roles} {es : List Value} {o : Nat} (h : es.length = o) : Reps ro w (es.drop o) [] := by
  rw [List.drop_eq_nil_of_le (by omega)]; exact Reps.nil
theorem cells_int {t : TypeId} {cs : List Value} (ht : P.underlying t = some (.int .i64)) (h : Reads P w t cs) : ∃ n : Int, Reps allFrozen w cs [.sc (.int .i64 n)] := by
  obtain ⟨n, rfl, _⟩ := h.int ht
  exact ⟨n, rfl, by simp [Value.oneCell'], fun j u c hu hc => by cases j with | zero => simp at hu hc; subst hu hc; exact .sc rfl | succ j => simp at hu⟩
theorem cells_str {t : TypeId} {cs : List Value} (ht : P.underlying t = some .string) (h : Reads P w t cs) : ∃ s : ByteArray, Reps allFrozen w cs [.sc (.string s)] := by
  obtain ⟨s, rfl, _⟩ := h.string ht
  exact ⟨s, rfl, by simp [Value.oneCell'], fun j u c hu hc => by cases j with | zero => simp at hu hc; subst hu hc; exact .sc rfl | succ j => simp at hu⟩
theorem cells_row {t e : TypeId} {sz : Nat} {α : Type} {enc : α → D} {cs : List Value} (ht : P.underlying t = some (.slice e)) (hsz : P.cellsOf e = sz) (h0 : 0 < sz) (hw : ∀ x, (enc x).cells.length = sz) (hel : Cells P w e enc (fun _ => True)) (h : Reads P w t cs) : ∃ xs : List α, Reps allFrozen w cs [.row (xs.map enc)] := by
  have hc : ∃ a l c, cs = [.slice a l c] := by
    rcases h.slice ht with rfl | ⟨a, l, c, rfl, _⟩
    · exact ⟨_, _, _, rfl⟩
    · exact ⟨_, _, _, rfl⟩
  obtain ⟨a, l, c, rfl⟩ := hc
  obtain ⟨xs, hx, _⟩ := row_of ht hsz h0 hw hel h
  exact ⟨xs, rfl, by simp [Value.oneCell'], fun j u c hu hc => by cases j with | zero => simp at hu hc; subst hu hc; exact hx | succ j => simp at hu⟩
theorem rep_agg {ro : Roles} {s : Array Value} {cs : List D} (h : Reps ro w s.toList cs) : Rep ro w (.agg s) (.agg cs) := .agg (by simpa using h.1) h.2.1 h.2.2
end
theorem str_cells (w : World) : Cells Try.prog w 9 strD (fun _ => True) := by
  intro es h
  obtain ⟨s, hs⟩ := cells_str Try.underlying9 h
  exact ⟨s, hs, trivial⟩
theorem ref_cells (w : World) : Cells Try.prog w 23 rD (fun _ => True) := by
  intro es h
  obtain ⟨hl, hf⟩ := h.struct Try.underlying23
  rw [show Try.prog.cellsOf 23 = 3 from by kernel_rfl] at hl
  have h0 := hf _ (List.mem_cons_self ..)
  simp only [show Try.prog.cellsOf 3 = 1 from by kernel_rfl] at h0
  obtain ⟨v0, r0⟩ := cells_int Try.underlying3 h0
  have h1 := hf _ (List.mem_cons_of_mem _ (List.mem_cons_self ..))
  simp only [show Try.prog.cellsOf 9 = 1 from by kernel_rfl] at h1
  obtain ⟨v1, r1⟩ := cells_str Try.underlying9 h1
  have h2 := hf _ (List.mem_cons_of_mem _ (List.mem_cons_of_mem _ (List.mem_cons_self ..)))
  simp only [show Try.prog.cellsOf 9 = 1 from by kernel_rfl] at h2
  obtain ⟨v2, r2⟩ := cells_str Try.underlying9 h2
  exact ⟨⟨v0, v1, v2⟩, reps_cut (o := 0) (k := 1) r0 (reps_cut (o := 1) (k := 1) r1 (reps_cut (o := 2) (k := 1) r2 (reps_end hl))), trivial⟩
theorem pair_cells (w : World) : Cells Try.prog w 38 pairD (fun _ => True) := by
  intro es h
  obtain ⟨hl, hf⟩ := h.struct Try.underlying38
  rw [show Try.prog.cellsOf 38 = 2 from by kernel_rfl] at hl
  have h0 := hf _ (List.mem_cons_self ..)
  simp only [show Try.prog.cellsOf 9 = 1 from by kernel_rfl] at h0
  obtain ⟨v0, r0⟩ := cells_str Try.underlying9 h0
  have h1 := hf _ (List.mem_cons_of_mem _ (List.mem_cons_self ..))
  simp only [show Try.prog.cellsOf 9 = 1 from by kernel_rfl] at h1
  obtain ⟨v1, r1⟩ := cells_str Try.underlying9 h1
  exact ⟨(v0, v1), reps_cut (o := 0) (k := 1) r0 (reps_cut (o := 1) (k := 1) r1 (reps_end hl)), trivial⟩
theorem field_cells (w : World) : Cells Try.prog w 26 fD (fun _ => True) := by
  intro es h
  obtain ⟨hl, hf⟩ := h.struct Try.underlying26
  rw [show Try.prog.cellsOf 26 = 7 from by kernel_rfl] at hl
  have h0 := hf _ (List.mem_cons_self ..)
  simp only [show Try.prog.cellsOf 23 = 3 from by kernel_rfl] at h0
  obtain ⟨v0, r0, _⟩ := ref_cells w _ h0
  have h1 := hf _ (List.mem_cons_of_mem _ (List.mem_cons_self ..))
  simp only [show Try.prog.cellsOf 3 = 1 from by kernel_rfl] at h1
  obtain ⟨v1, r1⟩ := cells_int Try.underlying3 h1
  have h2 := hf _ (List.mem_cons_of_mem _ (List.mem_cons_of_mem _ (List.mem_cons_self ..)))
  simp only [show Try.prog.cellsOf 9 = 1 from by kernel_rfl] at h2
  obtain ⟨v2, r2⟩ := cells_str Try.underlying9 h2
  have h3 := hf _ (List.mem_cons_of_mem _ (List.mem_cons_of_mem _ (List.mem_cons_of_mem _ (List.mem_cons_self ..))))
  simp only [show Try.prog.cellsOf 24 = 1 from by kernel_rfl] at h3
  obtain ⟨v3, r3⟩ := cells_row Try.underlying24 (show Try.prog.cellsOf 9 = 1 from by kernel_rfl) (by omega) (fun _ => rfl) (str_cells w) h3
  have h4 := hf _ (List.mem_cons_of_mem _ (List.mem_cons_of_mem _ (List.mem_cons_of_mem _ (List.mem_cons_of_mem _ (List.mem_cons_self ..)))))
  simp only [show Try.prog.cellsOf 2 = 1 from by kernel_rfl] at h4
  obtain ⟨v4, r4⟩ := cells_int Try.underlying2 h4
  exact ⟨⟨v0, v1, v2, v3, v4⟩, reps_cut (o := 0) (k := 3) r0 (reps_cut (o := 3) (k := 1) r1 (reps_cut (o := 4) (k := 1) r2 (reps_cut (o := 5) (k := 1) r3 (reps_cut (o := 6) (k := 1) r4 (reps_end hl))))), trivial⟩
theorem lens_cells (w : World) : Cells Try.prog w 29 lD (fun _ => True) := by
  intro es h
  obtain ⟨hl, hf⟩ := h.struct Try.underlying29
  rw [show Try.prog.cellsOf 29 = 16 from by kernel_rfl] at hl
  have h0 := hf _ (List.mem_cons_self ..)
  simp only [show Try.prog.cellsOf 3 = 1 from by kernel_rfl] at h0
  obtain ⟨v0, r0⟩ := cells_int Try.underlying3 h0
  have h1 := hf _ (List.mem_cons_of_mem _ (List.mem_cons_self ..))
  simp only [show Try.prog.cellsOf 23 = 3 from by kernel_rfl] at h1
  obtain ⟨v1, r1, _⟩ := ref_cells w _ h1
  have h2 := hf _ (List.mem_cons_of_mem _ (List.mem_cons_of_mem _ (List.mem_cons_self ..)))
  simp only [show Try.prog.cellsOf 9 = 1 from by kernel_rfl] at h2
  obtain ⟨v2, r2⟩ := cells_str Try.underlying9 h2
  have h3 := hf _ (List.mem_cons_of_mem _ (List.mem_cons_of_mem _ (List.mem_cons_of_mem _ (List.mem_cons_self ..))))
  simp only [show Try.prog.cellsOf 9 = 1 from by kernel_rfl] at h3
  obtain ⟨v3, r3⟩ := cells_str Try.underlying9 h3
  have h4 := hf _ (List.mem_cons_of_mem _ (List.mem_cons_of_mem _ (List.mem_cons_of_mem _ (List.mem_cons_of_mem _ (List.mem_cons_self ..)))))
  simp only [show Try.prog.cellsOf 2 = 1 from by kernel_rfl] at h4
  obtain ⟨v4, r4⟩ := cells_int Try.underlying2 h4
  have h5 := hf _ (List.mem_cons_of_mem _ (List.mem_cons_of_mem _ (List.mem_cons_of_mem _ (List.mem_cons_of_mem _ (List.mem_cons_of_mem _ (List.mem_cons_self ..))))))
  simp only [show Try.prog.cellsOf 26 = 7 from by kernel_rfl] at h5
  obtain ⟨v5, r5, _⟩ := field_cells w _ h5
  have h6 := hf _ (List.mem_cons_of_mem _ (List.mem_cons_of_mem _ (List.mem_cons_of_mem _ (List.mem_cons_of_mem _ (List.mem_cons_of_mem _ (List.mem_cons_of_mem _ (List.mem_cons_self ..)))))))
  simp only [show Try.prog.cellsOf 27 = 1 from by kernel_rfl] at h6
  obtain ⟨v6, r6⟩ := cells_row Try.underlying27 (show Try.prog.cellsOf 38 = 2 from by kernel_rfl) (by omega) (fun _ => rfl) (pair_cells w) h6
  have h7 := hf _ (List.mem_cons_of_mem _ (List.mem_cons_of_mem _ (List.mem_cons_of_mem _ (List.mem_cons_of_mem _ (List.mem_cons_of_mem _ (List.mem_cons_of_mem _ (List.mem_cons_of_mem _ (List.mem_cons_self ..))))))))
  simp only [show Try.prog.cellsOf 27 = 1 from by kernel_rfl] at h7
  obtain ⟨v7, r7⟩ := cells_row Try.underlying27 (show Try.prog.cellsOf 38 = 2 from by kernel_rfl) (by omega) (fun _ => rfl) (pair_cells w) h7
  exact ⟨⟨v0, v1, v2, v3, v4, v5, v6, v7⟩, reps_cut (o := 0) (k := 1) r0 (reps_cut (o := 1) (k := 3) r1 (reps_cut (o := 4) (k := 1) r2 (reps_cut (o := 5) (k := 1) r3 (reps_cut (o := 6) (k := 1) r4 (reps_cut (o := 7) (k := 7) r5 (reps_cut (o := 14) (k := 1) r6 (reps_cut (o := 15) (k := 1) r7 (reps_end hl)))))))), trivial⟩
end Go.Vm
end
section
namespace Go.Vm
open Go.RowKit Go.Proofs
set_option maxRecDepth 10000
end Go.Vm
namespace Go.Proofs.Ytdhhmbbhhnendaa
open Go.RowKit Go.Vm
theorem lensRight_walk (s0 : Array Value) (s1 : Array Value) (w : World) (r0 : Reads Try.prog w 29 s0.toList) (r1 : Reads Try.prog w 29 s1.toList) :
  Calls Try.prog 3 #[.agg s0, .agg s1] w fun e w' => e = .returned (.bool true) ∧ Below w.heap.size w w' := by
 obtain ⟨x0, hx0, o0⟩ := lens_cells w _ r0
 have hx0 := rep_agg hx0
 obtain ⟨x1, hx1, o1⟩ := lens_cells w _ r1
 have hx1 := rep_agg hx1
 refine law_true (lensRightLaw_any x0 x1) rfl ?_
 intro i v d hv hd
 match i, hv, hd with
 | 0, hv, hd => simp at hv hd; subst hv hd; exact hx0
 | 1, hv, hd => simp at hv hd; subst hv hd; exact hx1
 | i + 2, hv, _ => simp at hv
end Go.Proofs.Ytdhhmbbhhnendaa
namespace Go.Vm
end Go.Vm
end
