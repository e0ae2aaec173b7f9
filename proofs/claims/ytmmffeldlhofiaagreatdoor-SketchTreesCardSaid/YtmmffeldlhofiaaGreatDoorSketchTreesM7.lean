/- Part 7 of what the proof of SketchTrees stands on: SkR3, TrRef, SkR4, SkL1, SkE, SkS1, SkL2, TrLay, TrCmp, TrSort, TrAt, TrReads, TrRef2, TrTagsOf, TrSettle, TrPut, TrMore, TrNodes, TrGrown, SkT1, SkL3, LnCells, SketchTreesWalk. -/
import Derived.Shelf.SlSortCmp.NoneTotal
import Derived.Shelf.Small.Bits
import Derived.Ground.SlsfProg
import Derived.Ground.NamesProg
import Derived.Test.YtmmffeldlhofiaaGreatDoorProg
import Derived.Test.YtmmffeldlhofiaaGreatDoorSketchTreesM6
set_option linter.unusedVariables false
set_option linter.unusedSimpArgs false
set_option maxHeartbeats 1000000
section
namespace Go.Vm
open Go.RowKit Go.Proofs
set_option maxRecDepth 10000
open Go.Proofs.YtmmffeldlhofiaaGreatDoor Punnet.Name Punnet.Num
def kTo (v : ByteArray) (k : Nat) : Int := if kindR v < (k : Int) then kindR v else 0
theorem kindR_dom {v : ByteArray} (h : ¬ kindR v = 0) : 1 ≤ kindR v ∧ kindR v ≤ 10 := by rcases kindR_cases v with k | k; exact absurd k h; exact ⟨k.1, k.2.1⟩
theorem kTo_one {v : ByteArray} : S.c (.d (.sc (.int .i64 0))) = S.c (.d (.sc (.int .i64 (kTo v 1)))) := by
  have e : kTo v 1 = 0 := by
    unfold kTo; split
    · rcases kindR_cases v with k | k
      · exact k
      · have := k.1; omega
    · rfl
  rw [e]
theorem kindR_verb {k : Nat} (h1 : 1 ≤ k) (h2 : k ≤ 10) : kindR (verbR k) = k := by
  rcases (by omega : k = 1 ∨ k = 2 ∨ k = 3 ∨ k = 4 ∨ k = 5 ∨ k = 6 ∨ k = 7 ∨ k = 8 ∨ k = 9 ∨ k = 10) with rfl | rfl | rfl | rfl | rfl | rfl | rfl | rfl | rfl | rfl <;> decide +kernel
theorem verbR_ne {k : Nat} (h1 : 1 ≤ k) (h2 : k ≤ 10) : ¬ noB = verbR k := fun e => by
  have h := kindR_verb h1 h2
  rw [← e, show kindR noB = 0 by decide +kernel] at h
  omega
theorem words_none {w : List ByteArray} (h : w.length = 0) : wd w 0 = noB := by rw [List.length_eq_zero_iff.1 h]; rfl
theorem words_pos {w : List ByteArray} (h : ¬ kindR (wd w 0) = 0) : 0 < w.length := by
  rcases Nat.eq_zero_or_pos w.length with k | k
  · rw [words_none k] at h; exact absurd (by decide +kernel) h
  · exact k
theorem kTo_hit {v : ByteArray} {k : Nat} (h1 : 1 ≤ k) (h2 : k ≤ 10) (hv : v = verbR k) : S.c (.d (.sc (.int .i64 (k : Int)))) = S.c (.d (.sc (.int .i64 (kTo v (k + 1))))) := by
  have e : kTo v (k + 1) = k := by unfold kTo; rw [hv, kindR_verb h1 h2, if_pos (by omega)]
  rw [e]
theorem kTo_miss {v : ByteArray} {k : Nat} (hv : ¬ v = verbR k) : S.c (.d (.sc (.int .i64 (kTo v k)))) = S.c (.d (.sc (.int .i64 (kTo v (k + 1))))) := by
  have e : kTo v (k + 1) = kTo v k := by
    have hn : ¬ kindR v = k ∨ kindR v = 0 := by
      rcases kindR_cases v with q | q
      · exact .inr q
      · exact .inl fun e => hv (by rw [← e]; exact q.2.2)
    unfold kTo
    by_cases h : kindR v < (k : Int)
    · rw [if_pos h, if_pos (by omega)]
    · rw [if_neg h]
      rcases hn with hn | hn
      · rw [if_neg (by omega)]
      · rw [hn]; split <;> rfl
  rw [e]
theorem kTo_end {v : ByteArray} {k : Nat} (h : 11 ≤ k) : kTo v k = kindR v := by
  unfold kTo
  rw [if_pos]
  rcases kindR_cases v with q | q
  · rw [q]; omega
  · have := q.2.1; omega
theorem verbs_at {k : Nat} (h1 : 1 ≤ k) (h2 : k < 11) : ([.sc (.string ⟨#[]⟩), .sc (.string ⟨#[114, 101, 110, 97, 109, 101]⟩), .sc (.string ⟨#[97, 100, 100]⟩), .sc (.string ⟨#[114, 101, 109, 111, 118, 101]⟩), .sc (.string ⟨#[104, 111, 105, 115, 116]⟩), .sc (.string ⟨#[112, 108, 117, 110, 103, 101]⟩), .sc (.string ⟨#[115, 112, 108, 105, 116]⟩), .sc (.string ⟨#[119, 114, 97, 112]⟩), .sc (.string ⟨#[99, 111, 110, 118, 101, 114, 116]⟩), .sc (.string ⟨#[109, 101, 114, 103, 101]⟩), .sc (.string ⟨#[117, 110, 119, 114, 97, 112]⟩)] : List D)[((k : Nat) : Int).toNat]? = some (.sc (.string (verbR k))) := by
  rcases (by omega : k = 1 ∨ k = 2 ∨ k = 3 ∨ k = 4 ∨ k = 5 ∨ k = 6 ∨ k = 7 ∨ k = 8 ∨ k = 9 ∨ k = 10) with rfl | rfl | rfl | rfl | rfl | rfl | rfl | rfl | rfl | rfl <;> rfl
theorem counts_at {k : Int} (h : 1 ≤ k ∧ k ≤ 10) : ([.sc (.int .i64 0), .sc (.int .i64 3), .sc (.int .i64 0), .sc (.int .i64 0), .sc (.int .i64 2), .sc (.int .i64 3), .sc (.int .i64 5), .sc (.int .i64 3), .sc (.int .i64 6), .sc (.int .i64 5), .sc (.int .i64 3)] : List D)[k.toNat]? = some (.sc (.int .i64 (wordsR k : Nat))) := by
  rcases (by omega : k = 1 ∨ k = 2 ∨ k = 3 ∨ k = 4 ∨ k = 5 ∨ k = 6 ∨ k = 7 ∨ k = 8 ∨ k = 9 ∨ k = 10) with rfl | rfl | rfl | rfl | rfl | rfl | rfl | rfl | rfl | rfl <;> rfl
theorem kindR_or {v : ByteArray} (h : ¬ kindR v = 0) (h2 : ¬ (kindR v = 2 ∨ kindR v = 3)) : kindR v = 1 ∨ kindR v = 4 ∨ kindR v = 5 ∨ kindR v = 6 ∨ kindR v = 7 ∨ kindR v = 8 ∨ kindR v = 9 ∨ kindR v = 10 := by have := kindR_dom h; omega
theorem or8 {a b c d e f g h p : Prop} (x : a ∨ b ∨ c ∨ d ∨ e ∨ f ∨ g ∨ h) (k1 : a → p) (k2 : b → p) (k3 : c → p) (k4 : d → p) (k5 : e → p) (k6 : f → p) (k7 : g → p) (k8 : h → p) : p := by
  rcases x with x | x | x | x | x | x | x | x
  · exact k1 x
  · exact k2 x
  · exact k3 x
  · exact k4 x
  · exact k5 x
  · exact k6 x
  · exact k7 x
  · exact k8 x
theorem tableR_len (s : ByteArray) : (tableR s).1.length ≤ (splitW 44 s).length := by
  unfold tableR; split
  · simp
  · exact Nat.zero_le _
theorem partsR_ok {k : Int} {w : List ByteArray} (hw : ∀ a ∈ w, a.size ≤ 900) : okX (partsR k w) := by
  have h4 := Nat.le_trans (tableR_len (wd w 4)) (splitW_few (wd_few hw 4))
  have h5 := Nat.le_trans (tableR_len (wd w 5)) (splitW_few (wd_few hw 5))
  refine ⟨Nat.zero_le _, ?_, ?_⟩
  · unfold partsR; dsimp only; split
    · omega
    · exact Nat.zero_le _
  · unfold partsR; dsimp only; split
    · omega
    · exact Nat.zero_le _
theorem ref36ParseLens_any (w : List ByteArray) (hwl : w.length ≤ 1000000) (hw : ∀ a ∈ w, a.size ≤ 900) : Contract Tryz.prog 57 [.row (w.map strD)] [.d (lD (parseRL w).1), .d (.sc (.bool ((parseRL w).2)))] := by
 refine T.fn [] Tryz.func57 ?_
 have hw9 : ∀ a ∈ w, a.size ≤ 900000 := fun a ha => Nat.le_trans (hw a ha) (by decide)
 refine xloopR (fb := []) T.ok (Nat.le_of_ble_eq_true rfl) [0, 2, 4, 5] (fun (k : Nat) => [(7, .c (.d (.sc (.int .i64 (k : Nat))))), (6, .c (.d (.sc (.int .i64 (kTo (wd w 0) k)))))]) (fun k => 1 ≤ k ∧ k ≤ 11) (fun k => 11 - k) 1 ⟨by decide, by decide⟩ (x_ent (by first | rfl | (simp only [Tr.get]; simp; done)) (x_ent (by simp only [Tr.get]; exact kTo_one) trivial)) ?_
 rintro k ⟨hk, hi⟩
 refine x_len ?_
 refine br (fun hc1 => ?y1) (fun hc1 => ?n1)
 case' y1 =>
  have hk11 : k < 11 := by have h9 : (k : Int) < 11 := hc1; omega
  refine And.intro ⟨T.mixed, by decide +kernel⟩ ?_
  refine x_len ?_
  refine br (fun hg2 => ?y2) (fun hg2 => ?n2)
  case' y2 =>
   first | refine x_ix (by first | exact verbs_at (by omega) (by omega) | exact counts_at hkd | exact wd_ix (i := 0) rfl (by first | omega) | exact wd_ix (i := 1) rfl (by first | omega) | exact wd_ix (i := 2) rfl (by first | omega) | exact wd_ix (i := 3) rfl (by first | omega) | exact wd_ix (i := 4) rfl (by first | omega) | exact wd_ix (i := 5) rfl (by first | omega)) ?_ | refine x_ixI (by first | exact verbs_at (by omega) (by omega) | exact counts_at hkd | exact wd_ix (i := 0) rfl (by first | omega) | exact wd_ix (i := 1) rfl (by first | omega) | exact wd_ix (i := 2) rfl (by first | omega) | exact wd_ix (i := 3) rfl (by first | omega) | exact wd_ix (i := 4) rfl (by first | omega) | exact wd_ix (i := 5) rfl (by first | omega)) ?_
   first | refine x_ix (by first | exact verbs_at (by omega) (by omega) | exact counts_at hkd | exact wd_ix (i := 0) rfl (by first | omega) | exact wd_ix (i := 1) rfl (by first | omega) | exact wd_ix (i := 2) rfl (by first | omega) | exact wd_ix (i := 3) rfl (by first | omega) | exact wd_ix (i := 4) rfl (by first | omega) | exact wd_ix (i := 5) rfl (by first | omega)) ?_ | refine x_ixI (by first | exact verbs_at (by omega) (by omega) | exact counts_at hkd | exact wd_ix (i := 0) rfl (by first | omega) | exact wd_ix (i := 1) rfl (by first | omega) | exact wd_ix (i := 2) rfl (by first | omega) | exact wd_ix (i := 3) rfl (by first | omega) | exact wd_ix (i := 4) rfl (by first | omega) | exact wd_ix (i := 5) rfl (by first | omega)) ?_
   refine br (fun hc3 => ?y3) (fun hc3 => ?n3)
   case' y3 =>
    have hv : wd w 0 = verbR k := hc3
    first | refine x_inc ?_ (h := by ((try simp only [List.length_map]); omega)) | refine x_add ?_ (h := by first | exact IntWalk.i64_in _ (by ((try simp only [List.length_map]); omega)) | rfl) | refine x_bin rfl rfl ?_
    refine x_rnd (k + 1) ⟨by omega, by omega⟩ (by (try dsimp only); omega) rfl (x_ent (by first | rfl | (simp only [Tr.get]; simp; done)) (x_ent (by simp only [Tr.get]; first | exact kTo_hit hk (by omega) hv | exact kTo_miss hv) trivial)) rfl
   case' n3 =>
    have hv : ¬ wd w 0 = verbR k := hc3
    first | refine x_inc ?_ (h := by ((try simp only [List.length_map]); omega)) | refine x_add ?_ (h := by first | exact IntWalk.i64_in _ (by ((try simp only [List.length_map]); omega)) | rfl) | refine x_bin rfl rfl ?_
    refine x_rnd (k + 1) ⟨by omega, by omega⟩ (by (try dsimp only); omega) rfl (x_ent (by first | rfl | (simp only [Tr.get]; simp; done)) (x_ent (by simp only [Tr.get]; first | exact kTo_hit hk (by omega) hv | exact kTo_miss hv) trivial)) rfl
  case' n2 =>
   have hv : ¬ wd w 0 = verbR k := by rw [words_none (by omega)]; exact verbR_ne hk (by omega)
   refine brF ?_
   first | refine x_inc ?_ (h := by ((try simp only [List.length_map]); omega)) | refine x_add ?_ (h := by first | exact IntWalk.i64_in _ (by ((try simp only [List.length_map]); omega)) | rfl) | refine x_bin rfl rfl ?_
   refine x_rnd (k + 1) ⟨by omega, by omega⟩ (by (try dsimp only); omega) rfl (x_ent (by first | rfl | (simp only [Tr.get]; simp; done)) (x_ent (by simp only [Tr.get]; first | exact kTo_hit hk (by omega) hv | exact kTo_miss hv) trivial)) rfl
 case' n1 =>
  have hkk : kTo (wd w 0) k = kindR (wd w 0) := kTo_end (by have h9 : ¬ (k : Int) < 11 := hc1; omega)
  rw [hkk]
  refine br (fun hc5 => ?y5) (fun hc5 => ?n5)
  case' y5 =>
   have hk0 : (kindR (wd w 0)) = 0 := hc5
   have hP : parseRL w = (noLens, false) := by unfold parseRL; rw [if_pos hk0]
  case' n5 =>
   have hk0 : ¬ (kindR (wd w 0)) = 0 := hc5
   have hkd := kindR_dom hk0
   have hwp := words_pos hk0
   refine br (fun hg6 => ?y6) (fun hg6 => ?n6)
   case' y6 =>
    have hk2 : (kindR (wd w 0)) = 2 ∨ (kindR (wd w 0)) = 3 := .inl hg6
    have hP : parseRL w = (⟨(kindR (wd w 0)), noRef, noB, noB, 0, (parseRF (w.drop 1)).1, [], []⟩, (parseRF (w.drop 1)).2) := by unfold parseRL; rw [if_neg hk0, if_pos hk2]
    refine brT ?_
    first | refine x_bnd ?_ | refine x_bndI ?_
    refine x_row ?_ (by first | exact str1_wide | exact strsl_wide _ | (intro x hx; cases hx)) (h1 := by ((try simp only [List.length_map]); omega)) (h2 := by ((try simp only [List.length_map]); omega)) (hy := by first | exact words_tl | exact rfl | rfl)
    refine x_call T.en_78 (ref36ParseField_any (w.drop 1) (fun a ha => hw9 a (List.mem_of_mem_drop ha))) ?_
   case' n6 =>
    refine br (fun hc8 => ?y8) (fun hc8 => ?n8)
    case' y8 =>
     have hk2 : (kindR (wd w 0)) = 2 ∨ (kindR (wd w 0)) = 3 := .inr hc8
     have hP : parseRL w = (⟨(kindR (wd w 0)), noRef, noB, noB, 0, (parseRF (w.drop 1)).1, [], []⟩, (parseRF (w.drop 1)).2) := by unfold parseRL; rw [if_neg hk0, if_pos hk2]
     first | refine x_bnd ?_ | refine x_bndI ?_
     refine x_row ?_ (by first | exact str1_wide | exact strsl_wide _ | (intro x hx; cases hx)) (h1 := by ((try simp only [List.length_map]); omega)) (h2 := by ((try simp only [List.length_map]); omega)) (hy := by first | exact words_tl | exact rfl | rfl)
     refine x_call T.en_78 (ref36ParseField_any (w.drop 1) (fun a ha => hw9 a (List.mem_of_mem_drop ha))) ?_
    case' n8 =>
     have hk2 : ¬ ((kindR (wd w 0)) = 2 ∨ (kindR (wd w 0)) = 3) := by omega
     refine x_len ?_
     first | refine x_ix (by first | exact verbs_at (by omega) (by omega) | exact counts_at hkd | exact wd_ix (i := 0) rfl (by first | omega) | exact wd_ix (i := 1) rfl (by first | omega) | exact wd_ix (i := 2) rfl (by first | omega) | exact wd_ix (i := 3) rfl (by first | omega) | exact wd_ix (i := 4) rfl (by first | omega) | exact wd_ix (i := 5) rfl (by first | omega)) ?_ | refine x_ixI (by first | exact verbs_at (by omega) (by omega) | exact counts_at hkd | exact wd_ix (i := 0) rfl (by first | omega) | exact wd_ix (i := 1) rfl (by first | omega) | exact wd_ix (i := 2) rfl (by first | omega) | exact wd_ix (i := 3) rfl (by first | omega) | exact wd_ix (i := 4) rfl (by first | omega) | exact wd_ix (i := 5) rfl (by first | omega)) ?_
     refine br (fun hc9 => ?y9) (fun hc9 => ?n9)
     case' y9 =>
      have hlk : ¬ w.length = wordsR (kindR (wd w 0)) := by omega
      have hP : parseRL w = (⟨(kindR (wd w 0)), noRef, noB, noB, 0, noField, [], []⟩, false) := by unfold parseRL; rw [if_neg hk0, if_neg hk2, if_pos hlk]
     case' n9 =>
      have hlk : w.length = wordsR (kindR (wd w 0)) := by omega
      refine or8 (kindR_or hk0 hk2) (fun e => ?s2_0) (fun e => ?s2_1) (fun e => ?s2_2) (fun e => ?s2_3) (fun e => ?s2_4) (fun e => ?s2_5) (fun e => ?s2_6) (fun e => ?s2_7)
      case' s2_0 =>
       rw [e] at hlk
       have hlen : w.length = 3 := hlk
       rw [e]
       have hP : parseRL w = (partsR 1 w, ((placeOf (wd w 1)).isSome && true) && rightL (partsR 1 w)) := by unfold parseRL; rw [e, if_neg (by decide), if_neg (by decide), if_neg (fun q => q hlen)]; rfl
       first | refine x_ix (by first | exact verbs_at (by omega) (by omega) | exact counts_at hkd | exact wd_ix (i := 0) rfl (by first | omega) | exact wd_ix (i := 1) rfl (by first | omega) | exact wd_ix (i := 2) rfl (by first | omega) | exact wd_ix (i := 3) rfl (by first | omega) | exact wd_ix (i := 4) rfl (by first | omega) | exact wd_ix (i := 5) rfl (by first | omega)) ?_ | refine x_ixI (by first | exact verbs_at (by omega) (by omega) | exact counts_at hkd | exact wd_ix (i := 0) rfl (by first | omega) | exact wd_ix (i := 1) rfl (by first | omega) | exact wd_ix (i := 2) rfl (by first | omega) | exact wd_ix (i := 3) rfl (by first | omega) | exact wd_ix (i := 4) rfl (by first | omega) | exact wd_ix (i := 5) rfl (by first | omega)) ?_
       refine x_call T.en_102 (ref13Read_any (wd w 1) (Nat.le_trans (wd_few hw 1) (by decide))) ?_
       refine brT ?_
       refine brT ?_
       refine brT ?_
       refine brT ?_
       refine brT ?_
       first | refine x_ix (by first | exact verbs_at (by omega) (by omega) | exact counts_at hkd | exact wd_ix (i := 0) rfl (by first | omega) | exact wd_ix (i := 1) rfl (by first | omega) | exact wd_ix (i := 2) rfl (by first | omega) | exact wd_ix (i := 3) rfl (by first | omega) | exact wd_ix (i := 4) rfl (by first | omega) | exact wd_ix (i := 5) rfl (by first | omega)) ?_ | refine x_ixI (by first | exact verbs_at (by omega) (by omega) | exact counts_at hkd | exact wd_ix (i := 0) rfl (by first | omega) | exact wd_ix (i := 1) rfl (by first | omega) | exact wd_ix (i := 2) rfl (by first | omega) | exact wd_ix (i := 3) rfl (by first | omega) | exact wd_ix (i := 4) rfl (by first | omega) | exact wd_ix (i := 5) rfl (by first | omega)) ?_
       refine brF ?_
       refine brF ?_
       refine brF ?_
       refine brF ?_
       refine brF ?_
       refine brF ?_
       refine brF ?_
       refine brF ?_
       refine And.intro ⟨T.mixed, by decide +kernel⟩ ?_
       refine And.intro (fun hg23 => ?y23) (fun hg23 => ?n23)
       case' y23 =>
        rw [hg23] at hP
        refine brT ?_
        refine brT ?_
        refine x_call T.en_17 (by first | exact refLensRight_any (partsR 1 w) (partsR_ok hw) | exact refLensRight_any (partsR 4 w) (partsR_ok hw) | exact refLensRight_any (partsR 5 w) (partsR_ok hw) | exact refLensRight_any (partsR 6 w) (partsR_ok hw) | exact refLensRight_any (partsR 7 w) (partsR_ok hw) | exact refLensRight_any (partsR 8 w) (partsR_ok hw) | exact refLensRight_any (partsR 9 w) (partsR_ok hw) | exact refLensRight_any (partsR 10 w) (partsR_ok hw)) ?_
       case' n23 =>
        rw [hg23] at hP
        refine brF ?_
        refine brF ?_
      case' s2_1 =>
       rw [e] at hlk
       have hlen : w.length = 2 := hlk
       rw [e]
       have hP : parseRL w = (partsR 4 w, ((placeOf (wd w 1)).isSome && true) && rightL (partsR 4 w)) := by unfold parseRL; rw [e, if_neg (by decide), if_neg (by decide), if_neg (fun q => q hlen)]; rfl
       first | refine x_ix (by first | exact verbs_at (by omega) (by omega) | exact counts_at hkd | exact wd_ix (i := 0) rfl (by first | omega) | exact wd_ix (i := 1) rfl (by first | omega) | exact wd_ix (i := 2) rfl (by first | omega) | exact wd_ix (i := 3) rfl (by first | omega) | exact wd_ix (i := 4) rfl (by first | omega) | exact wd_ix (i := 5) rfl (by first | omega)) ?_ | refine x_ixI (by first | exact verbs_at (by omega) (by omega) | exact counts_at hkd | exact wd_ix (i := 0) rfl (by first | omega) | exact wd_ix (i := 1) rfl (by first | omega) | exact wd_ix (i := 2) rfl (by first | omega) | exact wd_ix (i := 3) rfl (by first | omega) | exact wd_ix (i := 4) rfl (by first | omega) | exact wd_ix (i := 5) rfl (by first | omega)) ?_
       refine x_call T.en_102 (ref13Read_any (wd w 1) (Nat.le_trans (wd_few hw 1) (by decide))) ?_
       refine brF ?_
       refine brF ?_
       refine brF ?_
       refine brF ?_
       refine brF ?_
       refine brF ?_
       refine brF ?_
       refine brF ?_
       refine brF ?_
       refine brF ?_
       refine brF ?_
       refine brF ?_
       refine brF ?_
       refine And.intro ⟨T.mixed, by decide +kernel⟩ ?_
       refine And.intro (fun hg41 => ?y41) (fun hg41 => ?n41)
       case' y41 =>
        rw [hg41] at hP
        refine brT ?_
        refine brT ?_
        refine x_call T.en_17 (by first | exact refLensRight_any (partsR 1 w) (partsR_ok hw) | exact refLensRight_any (partsR 4 w) (partsR_ok hw) | exact refLensRight_any (partsR 5 w) (partsR_ok hw) | exact refLensRight_any (partsR 6 w) (partsR_ok hw) | exact refLensRight_any (partsR 7 w) (partsR_ok hw) | exact refLensRight_any (partsR 8 w) (partsR_ok hw) | exact refLensRight_any (partsR 9 w) (partsR_ok hw) | exact refLensRight_any (partsR 10 w) (partsR_ok hw)) ?_
       case' n41 =>
        rw [hg41] at hP
        refine brF ?_
        refine brF ?_
      case' s2_2 =>
       rw [e] at hlk
       have hlen : w.length = 3 := hlk
       rw [e]
       have hP : parseRL w = (partsR 5 w, ((placeOf (wd w 1)).isSome && true) && rightL (partsR 5 w)) := by unfold parseRL; rw [e, if_neg (by decide), if_neg (by decide), if_neg (fun q => q hlen)]; rfl
       first | refine x_ix (by first | exact verbs_at (by omega) (by omega) | exact counts_at hkd | exact wd_ix (i := 0) rfl (by first | omega) | exact wd_ix (i := 1) rfl (by first | omega) | exact wd_ix (i := 2) rfl (by first | omega) | exact wd_ix (i := 3) rfl (by first | omega) | exact wd_ix (i := 4) rfl (by first | omega) | exact wd_ix (i := 5) rfl (by first | omega)) ?_ | refine x_ixI (by first | exact verbs_at (by omega) (by omega) | exact counts_at hkd | exact wd_ix (i := 0) rfl (by first | omega) | exact wd_ix (i := 1) rfl (by first | omega) | exact wd_ix (i := 2) rfl (by first | omega) | exact wd_ix (i := 3) rfl (by first | omega) | exact wd_ix (i := 4) rfl (by first | omega) | exact wd_ix (i := 5) rfl (by first | omega)) ?_
       refine x_call T.en_102 (ref13Read_any (wd w 1) (Nat.le_trans (wd_few hw 1) (by decide))) ?_
       refine brF ?_
       refine brT ?_
       refine brT ?_
       refine brT ?_
       refine brT ?_
       first | refine x_ix (by first | exact verbs_at (by omega) (by omega) | exact counts_at hkd | exact wd_ix (i := 0) rfl (by first | omega) | exact wd_ix (i := 1) rfl (by first | omega) | exact wd_ix (i := 2) rfl (by first | omega) | exact wd_ix (i := 3) rfl (by first | omega) | exact wd_ix (i := 4) rfl (by first | omega) | exact wd_ix (i := 5) rfl (by first | omega)) ?_ | refine x_ixI (by first | exact verbs_at (by omega) (by omega) | exact counts_at hkd | exact wd_ix (i := 0) rfl (by first | omega) | exact wd_ix (i := 1) rfl (by first | omega) | exact wd_ix (i := 2) rfl (by first | omega) | exact wd_ix (i := 3) rfl (by first | omega) | exact wd_ix (i := 4) rfl (by first | omega) | exact wd_ix (i := 5) rfl (by first | omega)) ?_
       refine brF ?_
       refine brF ?_
       refine brF ?_
       refine brF ?_
       refine brF ?_
       refine brF ?_
       refine brF ?_
       refine brF ?_
       refine And.intro ⟨T.mixed, by decide +kernel⟩ ?_
       refine And.intro (fun hg59 => ?y59) (fun hg59 => ?n59)
       case' y59 =>
        rw [hg59] at hP
        refine brT ?_
        refine brT ?_
        refine x_call T.en_17 (by first | exact refLensRight_any (partsR 1 w) (partsR_ok hw) | exact refLensRight_any (partsR 4 w) (partsR_ok hw) | exact refLensRight_any (partsR 5 w) (partsR_ok hw) | exact refLensRight_any (partsR 6 w) (partsR_ok hw) | exact refLensRight_any (partsR 7 w) (partsR_ok hw) | exact refLensRight_any (partsR 8 w) (partsR_ok hw) | exact refLensRight_any (partsR 9 w) (partsR_ok hw) | exact refLensRight_any (partsR 10 w) (partsR_ok hw)) ?_
       case' n59 =>
        rw [hg59] at hP
        refine brF ?_
        refine brF ?_
      case' s2_3 =>
       rw [e] at hlk
       have hlen : w.length = 5 := hlk
       rw [e]
       have hP : parseRL w = (partsR 6 w, ((placeOf (wd w 1)).isSome && decide ((numW (wd w 4)).2 = 0)) && rightL (partsR 6 w)) := by unfold parseRL; rw [e, if_neg (by decide), if_neg (by decide), if_neg (fun q => q hlen)]; rfl
       first | refine x_ix (by first | exact verbs_at (by omega) (by omega) | exact counts_at hkd | exact wd_ix (i := 0) rfl (by first | omega) | exact wd_ix (i := 1) rfl (by first | omega) | exact wd_ix (i := 2) rfl (by first | omega) | exact wd_ix (i := 3) rfl (by first | omega) | exact wd_ix (i := 4) rfl (by first | omega) | exact wd_ix (i := 5) rfl (by first | omega)) ?_ | refine x_ixI (by first | exact verbs_at (by omega) (by omega) | exact counts_at hkd | exact wd_ix (i := 0) rfl (by first | omega) | exact wd_ix (i := 1) rfl (by first | omega) | exact wd_ix (i := 2) rfl (by first | omega) | exact wd_ix (i := 3) rfl (by first | omega) | exact wd_ix (i := 4) rfl (by first | omega) | exact wd_ix (i := 5) rfl (by first | omega)) ?_
       refine x_call T.en_102 (ref13Read_any (wd w 1) (Nat.le_trans (wd_few hw 1) (by decide))) ?_
       refine brF ?_
       refine brF ?_
       refine brT ?_
       refine brT ?_
       refine brT ?_
       first | refine x_ix (by first | exact verbs_at (by omega) (by omega) | exact counts_at hkd | exact wd_ix (i := 0) rfl (by first | omega) | exact wd_ix (i := 1) rfl (by first | omega) | exact wd_ix (i := 2) rfl (by first | omega) | exact wd_ix (i := 3) rfl (by first | omega) | exact wd_ix (i := 4) rfl (by first | omega) | exact wd_ix (i := 5) rfl (by first | omega)) ?_ | refine x_ixI (by first | exact verbs_at (by omega) (by omega) | exact counts_at hkd | exact wd_ix (i := 0) rfl (by first | omega) | exact wd_ix (i := 1) rfl (by first | omega) | exact wd_ix (i := 2) rfl (by first | omega) | exact wd_ix (i := 3) rfl (by first | omega) | exact wd_ix (i := 4) rfl (by first | omega) | exact wd_ix (i := 5) rfl (by first | omega)) ?_
       refine brT ?_
       refine brT ?_
       refine brT ?_
       first | refine x_ix (by first | exact verbs_at (by omega) (by omega) | exact counts_at hkd | exact wd_ix (i := 0) rfl (by first | omega) | exact wd_ix (i := 1) rfl (by first | omega) | exact wd_ix (i := 2) rfl (by first | omega) | exact wd_ix (i := 3) rfl (by first | omega) | exact wd_ix (i := 4) rfl (by first | omega) | exact wd_ix (i := 5) rfl (by first | omega)) ?_ | refine x_ixI (by first | exact verbs_at (by omega) (by omega) | exact counts_at hkd | exact wd_ix (i := 0) rfl (by first | omega) | exact wd_ix (i := 1) rfl (by first | omega) | exact wd_ix (i := 2) rfl (by first | omega) | exact wd_ix (i := 3) rfl (by first | omega) | exact wd_ix (i := 4) rfl (by first | omega) | exact wd_ix (i := 5) rfl (by first | omega)) ?_
       refine brT ?_
       refine brT ?_
       first | refine x_ix (by first | exact verbs_at (by omega) (by omega) | exact counts_at hkd | exact wd_ix (i := 0) rfl (by first | omega) | exact wd_ix (i := 1) rfl (by first | omega) | exact wd_ix (i := 2) rfl (by first | omega) | exact wd_ix (i := 3) rfl (by first | omega) | exact wd_ix (i := 4) rfl (by first | omega) | exact wd_ix (i := 5) rfl (by first | omega)) ?_ | refine x_ixI (by first | exact verbs_at (by omega) (by omega) | exact counts_at hkd | exact wd_ix (i := 0) rfl (by first | omega) | exact wd_ix (i := 1) rfl (by first | omega) | exact wd_ix (i := 2) rfl (by first | omega) | exact wd_ix (i := 3) rfl (by first | omega) | exact wd_ix (i := 4) rfl (by first | omega) | exact wd_ix (i := 5) rfl (by first | omega)) ?_
       refine x_call T.en_103 (ref36Number_any (wd w 4) (Nat.le_trans (wd_few hw 4) (by decide))) ?_
       refine brF ?_
       refine brF ?_
       refine brF ?_
       refine And.intro ⟨T.mixed, by decide +kernel⟩ ?_
       refine And.intro (fun hg77 => ?y77) (fun hg77 => ?n77)
       case' y77 =>
        rw [hg77] at hP
        refine And.intro (fun hg78 => ?y78) (fun hg78 => ?n78)
        case' y78 =>
         rw [hg78] at hP
         refine brT ?_
         refine x_call T.en_17 (by first | exact refLensRight_any (partsR 1 w) (partsR_ok hw) | exact refLensRight_any (partsR 4 w) (partsR_ok hw) | exact refLensRight_any (partsR 5 w) (partsR_ok hw) | exact refLensRight_any (partsR 6 w) (partsR_ok hw) | exact refLensRight_any (partsR 7 w) (partsR_ok hw) | exact refLensRight_any (partsR 8 w) (partsR_ok hw) | exact refLensRight_any (partsR 9 w) (partsR_ok hw) | exact refLensRight_any (partsR 10 w) (partsR_ok hw)) ?_
        case' n78 =>
         rw [hg78] at hP
         refine brF ?_
       case' n77 =>
        rw [hg77] at hP
        refine brF ?_
        refine brF ?_
      case' s2_4 =>
       rw [e] at hlk
       have hlen : w.length = 3 := hlk
       rw [e]
       have hP : parseRL w = (partsR 7 w, ((placeOf (wd w 1)).isSome && (quotedR (wd w 2)).2) && rightL (partsR 7 w)) := by unfold parseRL; rw [e, if_neg (by decide), if_neg (by decide), if_neg (fun q => q hlen)]; rfl
       first | refine x_ix (by first | exact verbs_at (by omega) (by omega) | exact counts_at hkd | exact wd_ix (i := 0) rfl (by first | omega) | exact wd_ix (i := 1) rfl (by first | omega) | exact wd_ix (i := 2) rfl (by first | omega) | exact wd_ix (i := 3) rfl (by first | omega) | exact wd_ix (i := 4) rfl (by first | omega) | exact wd_ix (i := 5) rfl (by first | omega)) ?_ | refine x_ixI (by first | exact verbs_at (by omega) (by omega) | exact counts_at hkd | exact wd_ix (i := 0) rfl (by first | omega) | exact wd_ix (i := 1) rfl (by first | omega) | exact wd_ix (i := 2) rfl (by first | omega) | exact wd_ix (i := 3) rfl (by first | omega) | exact wd_ix (i := 4) rfl (by first | omega) | exact wd_ix (i := 5) rfl (by first | omega)) ?_
       refine x_call T.en_102 (ref13Read_any (wd w 1) (Nat.le_trans (wd_few hw 1) (by decide))) ?_
       refine brF ?_
       refine brF ?_
       refine brF ?_
       refine brF ?_
       refine brF ?_
       refine brF ?_
       refine brF ?_
       refine brF ?_
       refine brF ?_
       refine brF ?_
       refine brT ?_
       refine brT ?_
       first | refine x_ix (by first | exact verbs_at (by omega) (by omega) | exact counts_at hkd | exact wd_ix (i := 0) rfl (by first | omega) | exact wd_ix (i := 1) rfl (by first | omega) | exact wd_ix (i := 2) rfl (by first | omega) | exact wd_ix (i := 3) rfl (by first | omega) | exact wd_ix (i := 4) rfl (by first | omega) | exact wd_ix (i := 5) rfl (by first | omega)) ?_ | refine x_ixI (by first | exact verbs_at (by omega) (by omega) | exact counts_at hkd | exact wd_ix (i := 0) rfl (by first | omega) | exact wd_ix (i := 1) rfl (by first | omega) | exact wd_ix (i := 2) rfl (by first | omega) | exact wd_ix (i := 3) rfl (by first | omega) | exact wd_ix (i := 4) rfl (by first | omega) | exact wd_ix (i := 5) rfl (by first | omega)) ?_
       refine x_call T.en_104 (refQuoted_any (wd w 2) (Nat.le_trans (wd_few hw 2) (by decide))) ?_
       refine brF ?_
       refine And.intro ⟨T.mixed, by decide +kernel⟩ ?_
       refine And.intro (fun hg96 => ?y96) (fun hg96 => ?n96)
       case' y96 =>
        rw [hg96] at hP
        refine And.intro (fun hg97 => ?y97) (fun hg97 => ?n97)
        case' y97 =>
         rw [hg97] at hP
         refine brT ?_
         refine x_call T.en_17 (by first | exact refLensRight_any (partsR 1 w) (partsR_ok hw) | exact refLensRight_any (partsR 4 w) (partsR_ok hw) | exact refLensRight_any (partsR 5 w) (partsR_ok hw) | exact refLensRight_any (partsR 6 w) (partsR_ok hw) | exact refLensRight_any (partsR 7 w) (partsR_ok hw) | exact refLensRight_any (partsR 8 w) (partsR_ok hw) | exact refLensRight_any (partsR 9 w) (partsR_ok hw) | exact refLensRight_any (partsR 10 w) (partsR_ok hw)) ?_
        case' n97 =>
         rw [hg97] at hP
         refine brF ?_
       case' n96 =>
        rw [hg96] at hP
        refine brF ?_
        refine brF ?_
      case' s2_5 =>
       rw [e] at hlk
       have hlen : w.length = 6 := hlk
       rw [e]
       have hP : parseRL w = (partsR 8 w, ((placeOf (wd w 1)).isSome && ((tableR (wd w 4)).2 && (tableR (wd w 5)).2)) && rightL (partsR 8 w)) := by unfold parseRL; rw [e, if_neg (by decide), if_neg (by decide), if_neg (fun q => q hlen)]; rfl
       first | refine x_ix (by first | exact verbs_at (by omega) (by omega) | exact counts_at hkd | exact wd_ix (i := 0) rfl (by first | omega) | exact wd_ix (i := 1) rfl (by first | omega) | exact wd_ix (i := 2) rfl (by first | omega) | exact wd_ix (i := 3) rfl (by first | omega) | exact wd_ix (i := 4) rfl (by first | omega) | exact wd_ix (i := 5) rfl (by first | omega)) ?_ | refine x_ixI (by first | exact verbs_at (by omega) (by omega) | exact counts_at hkd | exact wd_ix (i := 0) rfl (by first | omega) | exact wd_ix (i := 1) rfl (by first | omega) | exact wd_ix (i := 2) rfl (by first | omega) | exact wd_ix (i := 3) rfl (by first | omega) | exact wd_ix (i := 4) rfl (by first | omega) | exact wd_ix (i := 5) rfl (by first | omega)) ?_
       refine x_call T.en_102 (ref13Read_any (wd w 1) (Nat.le_trans (wd_few hw 1) (by decide))) ?_
       refine brF ?_
       refine brF ?_
       refine brF ?_
       refine brT ?_
       refine brT ?_
       first | refine x_ix (by first | exact verbs_at (by omega) (by omega) | exact counts_at hkd | exact wd_ix (i := 0) rfl (by first | omega) | exact wd_ix (i := 1) rfl (by first | omega) | exact wd_ix (i := 2) rfl (by first | omega) | exact wd_ix (i := 3) rfl (by first | omega) | exact wd_ix (i := 4) rfl (by first | omega) | exact wd_ix (i := 5) rfl (by first | omega)) ?_ | refine x_ixI (by first | exact verbs_at (by omega) (by omega) | exact counts_at hkd | exact wd_ix (i := 0) rfl (by first | omega) | exact wd_ix (i := 1) rfl (by first | omega) | exact wd_ix (i := 2) rfl (by first | omega) | exact wd_ix (i := 3) rfl (by first | omega) | exact wd_ix (i := 4) rfl (by first | omega) | exact wd_ix (i := 5) rfl (by first | omega)) ?_
       refine brF ?_
       refine brT ?_
       refine brT ?_
       first | refine x_ix (by first | exact verbs_at (by omega) (by omega) | exact counts_at hkd | exact wd_ix (i := 0) rfl (by first | omega) | exact wd_ix (i := 1) rfl (by first | omega) | exact wd_ix (i := 2) rfl (by first | omega) | exact wd_ix (i := 3) rfl (by first | omega) | exact wd_ix (i := 4) rfl (by first | omega) | exact wd_ix (i := 5) rfl (by first | omega)) ?_ | refine x_ixI (by first | exact verbs_at (by omega) (by omega) | exact counts_at hkd | exact wd_ix (i := 0) rfl (by first | omega) | exact wd_ix (i := 1) rfl (by first | omega) | exact wd_ix (i := 2) rfl (by first | omega) | exact wd_ix (i := 3) rfl (by first | omega) | exact wd_ix (i := 4) rfl (by first | omega) | exact wd_ix (i := 5) rfl (by first | omega)) ?_
       refine brF ?_
       refine brF ?_
       refine brF ?_
       refine brF ?_
       refine brT ?_
       first | refine x_ix (by first | exact verbs_at (by omega) (by omega) | exact counts_at hkd | exact wd_ix (i := 0) rfl (by first | omega) | exact wd_ix (i := 1) rfl (by first | omega) | exact wd_ix (i := 2) rfl (by first | omega) | exact wd_ix (i := 3) rfl (by first | omega) | exact wd_ix (i := 4) rfl (by first | omega) | exact wd_ix (i := 5) rfl (by first | omega)) ?_ | refine x_ixI (by first | exact verbs_at (by omega) (by omega) | exact counts_at hkd | exact wd_ix (i := 0) rfl (by first | omega) | exact wd_ix (i := 1) rfl (by first | omega) | exact wd_ix (i := 2) rfl (by first | omega) | exact wd_ix (i := 3) rfl (by first | omega) | exact wd_ix (i := 4) rfl (by first | omega) | exact wd_ix (i := 5) rfl (by first | omega)) ?_
       refine x_call T.en_105 (by first | exact ref36Table_any (wd w 4) (Nat.le_trans (wd_few hw 4) (by decide)) | exact ref36Table_any (wd w 5) (Nat.le_trans (wd_few hw 5) (by decide))) ?_
       first | refine x_ix (by first | exact verbs_at (by omega) (by omega) | exact counts_at hkd | exact wd_ix (i := 0) rfl (by first | omega) | exact wd_ix (i := 1) rfl (by first | omega) | exact wd_ix (i := 2) rfl (by first | omega) | exact wd_ix (i := 3) rfl (by first | omega) | exact wd_ix (i := 4) rfl (by first | omega) | exact wd_ix (i := 5) rfl (by first | omega)) ?_ | refine x_ixI (by first | exact verbs_at (by omega) (by omega) | exact counts_at hkd | exact wd_ix (i := 0) rfl (by first | omega) | exact wd_ix (i := 1) rfl (by first | omega) | exact wd_ix (i := 2) rfl (by first | omega) | exact wd_ix (i := 3) rfl (by first | omega) | exact wd_ix (i := 4) rfl (by first | omega) | exact wd_ix (i := 5) rfl (by first | omega)) ?_
       refine x_call T.en_105 (by first | exact ref36Table_any (wd w 4) (Nat.le_trans (wd_few hw 4) (by decide)) | exact ref36Table_any (wd w 5) (Nat.le_trans (wd_few hw 5) (by decide))) ?_
       refine And.intro ⟨T.mixed, by decide +kernel⟩ ?_
       refine And.intro (fun hg115 => ?y115) (fun hg115 => ?n115)
       case' y115 =>
        rw [hg115] at hP
        refine And.intro (fun hg116 => ?y116) (fun hg116 => ?n116)
        case' y116 =>
         rw [hg116] at hP
         refine And.intro (fun hg117 => ?y117) (fun hg117 => ?n117)
         case' y117 =>
          rw [hg117] at hP
          refine x_call T.en_17 (by first | exact refLensRight_any (partsR 1 w) (partsR_ok hw) | exact refLensRight_any (partsR 4 w) (partsR_ok hw) | exact refLensRight_any (partsR 5 w) (partsR_ok hw) | exact refLensRight_any (partsR 6 w) (partsR_ok hw) | exact refLensRight_any (partsR 7 w) (partsR_ok hw) | exact refLensRight_any (partsR 8 w) (partsR_ok hw) | exact refLensRight_any (partsR 9 w) (partsR_ok hw) | exact refLensRight_any (partsR 10 w) (partsR_ok hw)) ?_
         case' n117 =>
          rw [hg117] at hP
        case' n116 =>
         rw [hg116] at hP
         refine brF ?_
       case' n115 =>
        rw [hg115] at hP
        refine brF ?_
        refine brF ?_
      case' s2_6 =>
       rw [e] at hlk
       have hlen : w.length = 5 := hlk
       rw [e]
       have hP : parseRL w = (partsR 9 w, ((placeOf (wd w 1)).isSome && decide ((numW (wd w 4)).2 = 0)) && rightL (partsR 9 w)) := by unfold parseRL; rw [e, if_neg (by decide), if_neg (by decide), if_neg (fun q => q hlen)]; rfl
       first | refine x_ix (by first | exact verbs_at (by omega) (by omega) | exact counts_at hkd | exact wd_ix (i := 0) rfl (by first | omega) | exact wd_ix (i := 1) rfl (by first | omega) | exact wd_ix (i := 2) rfl (by first | omega) | exact wd_ix (i := 3) rfl (by first | omega) | exact wd_ix (i := 4) rfl (by first | omega) | exact wd_ix (i := 5) rfl (by first | omega)) ?_ | refine x_ixI (by first | exact verbs_at (by omega) (by omega) | exact counts_at hkd | exact wd_ix (i := 0) rfl (by first | omega) | exact wd_ix (i := 1) rfl (by first | omega) | exact wd_ix (i := 2) rfl (by first | omega) | exact wd_ix (i := 3) rfl (by first | omega) | exact wd_ix (i := 4) rfl (by first | omega) | exact wd_ix (i := 5) rfl (by first | omega)) ?_
       refine x_call T.en_102 (ref13Read_any (wd w 1) (Nat.le_trans (wd_few hw 1) (by decide))) ?_
       refine brF ?_
       refine brF ?_
       refine brF ?_
       refine brF ?_
       refine brT ?_
       first | refine x_ix (by first | exact verbs_at (by omega) (by omega) | exact counts_at hkd | exact wd_ix (i := 0) rfl (by first | omega) | exact wd_ix (i := 1) rfl (by first | omega) | exact wd_ix (i := 2) rfl (by first | omega) | exact wd_ix (i := 3) rfl (by first | omega) | exact wd_ix (i := 4) rfl (by first | omega) | exact wd_ix (i := 5) rfl (by first | omega)) ?_ | refine x_ixI (by first | exact verbs_at (by omega) (by omega) | exact counts_at hkd | exact wd_ix (i := 0) rfl (by first | omega) | exact wd_ix (i := 1) rfl (by first | omega) | exact wd_ix (i := 2) rfl (by first | omega) | exact wd_ix (i := 3) rfl (by first | omega) | exact wd_ix (i := 4) rfl (by first | omega) | exact wd_ix (i := 5) rfl (by first | omega)) ?_
       refine brF ?_
       refine brF ?_
       refine brT ?_
       first | refine x_ix (by first | exact verbs_at (by omega) (by omega) | exact counts_at hkd | exact wd_ix (i := 0) rfl (by first | omega) | exact wd_ix (i := 1) rfl (by first | omega) | exact wd_ix (i := 2) rfl (by first | omega) | exact wd_ix (i := 3) rfl (by first | omega) | exact wd_ix (i := 4) rfl (by first | omega) | exact wd_ix (i := 5) rfl (by first | omega)) ?_ | refine x_ixI (by first | exact verbs_at (by omega) (by omega) | exact counts_at hkd | exact wd_ix (i := 0) rfl (by first | omega) | exact wd_ix (i := 1) rfl (by first | omega) | exact wd_ix (i := 2) rfl (by first | omega) | exact wd_ix (i := 3) rfl (by first | omega) | exact wd_ix (i := 4) rfl (by first | omega) | exact wd_ix (i := 5) rfl (by first | omega)) ?_
       refine brF ?_
       refine brT ?_
       first | refine x_ix (by first | exact verbs_at (by omega) (by omega) | exact counts_at hkd | exact wd_ix (i := 0) rfl (by first | omega) | exact wd_ix (i := 1) rfl (by first | omega) | exact wd_ix (i := 2) rfl (by first | omega) | exact wd_ix (i := 3) rfl (by first | omega) | exact wd_ix (i := 4) rfl (by first | omega) | exact wd_ix (i := 5) rfl (by first | omega)) ?_ | refine x_ixI (by first | exact verbs_at (by omega) (by omega) | exact counts_at hkd | exact wd_ix (i := 0) rfl (by first | omega) | exact wd_ix (i := 1) rfl (by first | omega) | exact wd_ix (i := 2) rfl (by first | omega) | exact wd_ix (i := 3) rfl (by first | omega) | exact wd_ix (i := 4) rfl (by first | omega) | exact wd_ix (i := 5) rfl (by first | omega)) ?_
       refine x_call T.en_103 (ref36Number_any (wd w 4) (Nat.le_trans (wd_few hw 4) (by decide))) ?_
       refine brF ?_
       refine brF ?_
       refine brF ?_
       refine And.intro ⟨T.mixed, by decide +kernel⟩ ?_
       refine And.intro (fun hg134 => ?y134) (fun hg134 => ?n134)
       case' y134 =>
        rw [hg134] at hP
        refine And.intro (fun hg135 => ?y135) (fun hg135 => ?n135)
        case' y135 =>
         rw [hg135] at hP
         refine brT ?_
         refine x_call T.en_17 (by first | exact refLensRight_any (partsR 1 w) (partsR_ok hw) | exact refLensRight_any (partsR 4 w) (partsR_ok hw) | exact refLensRight_any (partsR 5 w) (partsR_ok hw) | exact refLensRight_any (partsR 6 w) (partsR_ok hw) | exact refLensRight_any (partsR 7 w) (partsR_ok hw) | exact refLensRight_any (partsR 8 w) (partsR_ok hw) | exact refLensRight_any (partsR 9 w) (partsR_ok hw) | exact refLensRight_any (partsR 10 w) (partsR_ok hw)) ?_
        case' n135 =>
         rw [hg135] at hP
         refine brF ?_
       case' n134 =>
        rw [hg134] at hP
        refine brF ?_
        refine brF ?_
      case' s2_7 =>
       rw [e] at hlk
       have hlen : w.length = 3 := hlk
       rw [e]
       have hP : parseRL w = (partsR 10 w, ((placeOf (wd w 1)).isSome && (quotedR (wd w 2)).2) && rightL (partsR 10 w)) := by unfold parseRL; rw [e, if_neg (by decide), if_neg (by decide), if_neg (fun q => q hlen)]; rfl
       first | refine x_ix (by first | exact verbs_at (by omega) (by omega) | exact counts_at hkd | exact wd_ix (i := 0) rfl (by first | omega) | exact wd_ix (i := 1) rfl (by first | omega) | exact wd_ix (i := 2) rfl (by first | omega) | exact wd_ix (i := 3) rfl (by first | omega) | exact wd_ix (i := 4) rfl (by first | omega) | exact wd_ix (i := 5) rfl (by first | omega)) ?_ | refine x_ixI (by first | exact verbs_at (by omega) (by omega) | exact counts_at hkd | exact wd_ix (i := 0) rfl (by first | omega) | exact wd_ix (i := 1) rfl (by first | omega) | exact wd_ix (i := 2) rfl (by first | omega) | exact wd_ix (i := 3) rfl (by first | omega) | exact wd_ix (i := 4) rfl (by first | omega) | exact wd_ix (i := 5) rfl (by first | omega)) ?_
       refine x_call T.en_102 (ref13Read_any (wd w 1) (Nat.le_trans (wd_few hw 1) (by decide))) ?_
       refine brF ?_
       refine brF ?_
       refine brF ?_
       refine brF ?_
       refine brF ?_
       refine brF ?_
       refine brF ?_
       refine brF ?_
       refine brF ?_
       refine brF ?_
       refine brF ?_
       refine brT ?_
       first | refine x_ix (by first | exact verbs_at (by omega) (by omega) | exact counts_at hkd | exact wd_ix (i := 0) rfl (by first | omega) | exact wd_ix (i := 1) rfl (by first | omega) | exact wd_ix (i := 2) rfl (by first | omega) | exact wd_ix (i := 3) rfl (by first | omega) | exact wd_ix (i := 4) rfl (by first | omega) | exact wd_ix (i := 5) rfl (by first | omega)) ?_ | refine x_ixI (by first | exact verbs_at (by omega) (by omega) | exact counts_at hkd | exact wd_ix (i := 0) rfl (by first | omega) | exact wd_ix (i := 1) rfl (by first | omega) | exact wd_ix (i := 2) rfl (by first | omega) | exact wd_ix (i := 3) rfl (by first | omega) | exact wd_ix (i := 4) rfl (by first | omega) | exact wd_ix (i := 5) rfl (by first | omega)) ?_
       refine x_call T.en_104 (refQuoted_any (wd w 2) (Nat.le_trans (wd_few hw 2) (by decide))) ?_
       refine brF ?_
       refine And.intro ⟨T.mixed, by decide +kernel⟩ ?_
       refine And.intro (fun hg153 => ?y153) (fun hg153 => ?n153)
       case' y153 =>
        rw [hg153] at hP
        refine And.intro (fun hg154 => ?y154) (fun hg154 => ?n154)
        case' y154 =>
         rw [hg154] at hP
         refine brT ?_
         refine x_call T.en_17 (by first | exact refLensRight_any (partsR 1 w) (partsR_ok hw) | exact refLensRight_any (partsR 4 w) (partsR_ok hw) | exact refLensRight_any (partsR 5 w) (partsR_ok hw) | exact refLensRight_any (partsR 6 w) (partsR_ok hw) | exact refLensRight_any (partsR 7 w) (partsR_ok hw) | exact refLensRight_any (partsR 8 w) (partsR_ok hw) | exact refLensRight_any (partsR 9 w) (partsR_ok hw) | exact refLensRight_any (partsR 10 w) (partsR_ok hw)) ?_
        case' n154 =>
         rw [hg154] at hP
         refine brF ?_
       case' n153 =>
        rw [hg153] at hP
        refine brF ?_
        refine brF ?_
 all_goals (refine x_ret ?_; simp only [fitsL, fits, C.asD, and_true] <;> (rw [hP]; (first | (constructor <;> first | rfl | (simp; done)) | rfl)))
end Go.Vm
end
section
namespace Go.Vm
open Go.RowKit Go.Proofs
set_option maxRecDepth 10000
theorem eD_wide {e : EdgeD} : ∀ x ∈ [eD e], x.cells.length = 20 := by intro x hx; rw [List.mem_singleton.1 hx]; rfl
theorem eDs_wide (E : List EdgeD) : ∀ x ∈ E.map eD, x.cells.length = 20 := by intro x hx; obtain ⟨e, _, rfl⟩ := List.mem_map.1 hx; rfl
theorem tD_wide {e : TagD} : ∀ x ∈ [tD e], x.cells.length = 2 := by intro x hx; rw [List.mem_singleton.1 hx]; rfl
theorem tDs_wide (E : List TagD) : ∀ x ∈ E.map tD, x.cells.length = 2 := by intro x hx; obtain ⟨e, _, rfl⟩ := List.mem_map.1 hx; rfl
theorem at_ix {E : List EdgeD} {j : Nat} {p : EdgeD} {a : Int} (hp : E[j]? = some p) (ha : a = (j : Int)) : (E.map eD)[a.toNat]? = some (eD p) := by rw [ha, Int.toNat_natCast]; exact mapAt hp
theorem slice_drop {α : Type} {f : α → D} {l : List α} {j : Nat} : ((l.map f).take (l.map f).length).drop j = (l.drop j).map f := by rw [List.take_of_length_le (by simp), List.map_drop]
def heavyE (m : Nat) (E : List EdgeD) : Bool := decide (m < E.length) || E.any fun e => heavyL e.lens
theorem heavyE_ok {m : Nat} {E : List EdgeD} (h : heavyE m E = false) : E.length ≤ m ∧ ∀ e ∈ E, okX e.lens := by
  unfold heavyE at h
  simp only [Bool.or_eq_false_iff, decide_eq_false_iff_not] at h
  refine ⟨by omega, fun e he => ?_⟩
  have := List.any_eq_false.1 h.2 e he
  exact heavyL_ok (by simpa using this)
def liveE (E : List EdgeD) : List TagD := noTag :: ((sortE E).filter fun e => decide ((cameOf E e.id).1 = 2)).map (·.id)
theorem refEdge_any (e : EdgeD) (he : okX e.lens) : Contract Tryz.prog 11 [eD e] [.d (.sc (.bool (edgeB e)))] := by
 refine T.fn [] Tryz.func11 ?_
 refine x_call T.en_51 (refTag_any _) ?_
 refine br (fun hg1 => ?y1) (fun hg1 => ?n1)
 case' y1 =>
  first | refine xeq_23e _ _ ?_ | refine xeq_23e _ noTag ?_ | refine xeq_23e noTag _ ?_
  refine br (fun hg2 => ?y2) (fun hg2 => ?n2)
  case' y2 =>
   refine brT ?_
   first | refine xeq_23n _ _ ?_ | refine xeq_23n _ noTag ?_ | refine xeq_23n noTag _ ?_
   refine br (fun hg4 => ?y4) (fun hg4 => ?n4)
   case' y4 =>
    refine x_call T.en_17 (refLensRight_any _ he) ?_
    refine br (fun hg5 => ?y5) (fun hg5 => ?n5)
   case' n4 =>
    refine brF ?_
  case' n2 =>
   refine x_call T.en_51 (refTag_any _) ?_
   refine br (fun hg7 => ?y7) (fun hg7 => ?n7)
   case' y7 =>
    first | refine xeq_23n _ _ ?_ | refine xeq_23n _ noTag ?_ | refine xeq_23n noTag _ ?_
    refine br (fun hg8 => ?y8) (fun hg8 => ?n8)
    case' y8 =>
     refine x_call T.en_17 (refLensRight_any _ he) ?_
     refine br (fun hg9 => ?y9) (fun hg9 => ?n9)
    case' n8 =>
     refine brF ?_
   case' n7 =>
    refine brF ?_
    refine brF ?_
 case' n1 =>
  refine brF ?_
  refine brF ?_
  refine brF ?_
 all_goals (refine x_ret ?_; simp only [fitsL, fits, C.asD, and_true] <;> (refine scb ?_; rw [edgeB_ref]; first | (simp_all; done) | (rw [Bool.eq_iff_iff]; simp_all <;> omega)))
theorem refSame_any (e f : EdgeD) (he : okX e.lens) : Contract Tryz.prog 14 [eD e, eD f] [.d (.sc (.bool (decide (e = f))))] := by
 refine T.fn [] Tryz.func14 ?_
 first | refine xeq_23e _ _ ?_ | refine xeq_23e _ noTag ?_ | refine xeq_23e noTag _ ?_
 refine br (fun hg1 => ?y1) (fun hg1 => ?n1)
 case' y1 =>
  first | refine xeq_23e _ _ ?_ | refine xeq_23e _ noTag ?_ | refine xeq_23e noTag _ ?_
  refine br (fun hg2 => ?y2) (fun hg2 => ?n2)
  case' y2 =>
   refine x_call T.en_20 (refLensSame_any _ _ he) ?_
 case' n1 =>
  refine brF ?_
 all_goals (refine x_ret ?_; simp only [fitsL, fits, C.asD, and_true] <;> (refine scb ?_; clear he; cases e; cases f; simp_all))
theorem refAt_any (E : List EdgeD) (id : TagD) (hE : E.length ≤ 1000) : Contract Tryz.prog 125 [.row (E.map eD), tD id] [.d (.sc (.int .i64 (atE E id)))] := by
 refine T.fn [] Tryz.func125 ?_
 refine xloopR (fb := []) T.ok (Nat.le_of_ble_eq_true rfl) [0, 3] (fun (k : Nat) => [(5, .c (.d (.sc (.int .i64 (k : Nat)))))]) (fun k => k ≤ E.length ∧ atE E id = atN id k (E.drop k)) (fun k => E.length - k) 0 ⟨Nat.zero_le _, rfl⟩ (x_ent (by first | rfl | (simp only [Tr.get]; simp; done)) trivial) ?_
 rintro k ⟨hk, hi⟩
 refine x_len ?_
 refine br (fun hc1 => ?y1) (fun hc1 => ?n1)
 case' y1 =>
  obtain ⟨p, hp⟩ := elem_at hc1
  have hkl := lt_len hp
  refine And.intro ⟨T.mixed, by decide +kernel⟩ ?_
  first | refine x_ix (by exact mapAt hp) ?_ | refine x_ixI (by exact mapAt hp) ?_
  first | refine xeq_23e _ _ ?_ | refine xeq_23e _ noTag ?_ | refine xeq_23e noTag _ ?_
  refine br (fun hc2 => ?y2) (fun hc2 => ?n2)
  case' n2 =>
   first | refine x_inc ?_ | refine x_add ?_ | refine x_bin rfl rfl ?_
   refine x_rnd (k + 1) ⟨lt_len hp, hi.trans (atN_no hp (by assumption))⟩ (by (try dsimp only); have := lt_len hp; omega) rfl (x_ent (by first | rfl | (simp only [Tr.get]; simp; done)) trivial) rfl
 all_goals (refine x_ret ?_; simp only [fitsL, fits, C.asD, and_true] <;> (first | (rw [hi, atN_yes hp (by assumption)]) | (rw [hi, atN_end (past_end (by assumption))])))
theorem refHeavy_any (E : List EdgeD) (m : Nat) (hm : m ≤ 1000) : Contract Tryz.prog 35 [.row (E.map eD), .sc (.int .i64 (m : Nat))] [.d (.sc (.bool (heavyE m E)))] := by
 refine T.fn [] Tryz.func35 ?_
 refine x_len ?_
 refine br (fun hc1 => ?y1) (fun hc1 => ?n1)
 case' n1 =>
  have h40 : E.length ≤ m := by omega
  refine xloopR (fb := []) T.ok (Nat.le_of_ble_eq_true rfl) [0] (fun (k : Nat) => [(5, .c (.d (.sc (.int .i64 (k : Nat)))))]) (fun k => k ≤ E.length ∧ (E.take k).any (fun e => heavyL e.lens) = false ∧ E.length ≤ m) (fun k => E.length - k) 0 ⟨Nat.zero_le _, ⟨rfl, h40⟩⟩ (x_ent (by first | rfl | (simp only [Tr.get]; simp; done)) trivial) ?_
  rintro k ⟨hk, hi⟩
  refine x_len ?_
  refine br (fun hc2 => ?y2) (fun hc2 => ?n2)
  case' y2 =>
   obtain ⟨p, hp⟩ := elem_at hc2
   have hkl := lt_len hp
   first | refine x_ix (by exact mapAt hp) ?_ | refine x_ixI (by exact mapAt hp) ?_
   refine x_call T.en_9 (refLensHeavy_any _) ?_
   refine br (fun hc3 => ?y3) (fun hc3 => ?n3)
   case' n3 =>
    first | refine x_inc ?_ | refine x_add ?_ | refine x_bin rfl rfl ?_
    refine x_rnd (k + 1) ⟨lt_len hp, any_next hp hi.1 (by simp_all), hi.2⟩ (by (try dsimp only); have := lt_len hp; omega) rfl (x_ent (by first | rfl | (simp only [Tr.get]; simp; done)) trivial) rfl
 all_goals (refine x_ret ?_; simp only [fitsL, fits, C.asD, and_true] <;> (refine scb ?_; first | (have hh := any_hit (f := fun e : EdgeD => heavyL e.lens) hp ‹heavyL p.lens = true›; unfold heavyE; rw [hh, Bool.or_true]; done) | (have hh := any_end (past_end (by assumption)) hi.1; unfold heavyE; rw [hh, Bool.or_false]; symm; simp only [decide_eq_true_eq, decide_eq_false_iff_not, Bool.not_eq_true', Bool.not_eq_false', Bool.and_eq_true, Bool.or_eq_true, Bool.or_eq_false_iff, Bool.and_eq_false_iff, beq_iff_eq, beq_eq_false_iff_ne, ne_eq, Bool.not_true, Bool.not_false, Bool.false_eq_true, Bool.true_eq_false] at * <;> omega) | (symm; unfold heavyE; simp only [decide_eq_true_eq, decide_eq_false_iff_not, Bool.not_eq_true', Bool.not_eq_false', Bool.and_eq_true, Bool.or_eq_true, Bool.or_eq_false_iff, Bool.and_eq_false_iff, beq_iff_eq, beq_eq_false_iff_ne, ne_eq, Bool.not_true, Bool.not_false, Bool.false_eq_true, Bool.true_eq_false] at * <;> omega)))
end Go.Vm
end
section
namespace Go.Vm
open Go.RowKit Go.Proofs
set_option maxRecDepth 10000
open Go.Proofs.YtmmffeldlhofiaaGreatDoor Punnet.Name Punnet.Num
theorem cut_at {s : ByteArray} {k : Nat} (hi : (46 : UInt8) ∉ s.data.toList.take k) (hc : s[k]? = some 46) : cutC 46 s.data.toList = (s.data.toList.take k, s.data.toList.drop (k + 1), true) := by
  rw [get_data'] at hc
  have hl := (List.getElem?_eq_some_iff.1 hc).1
  have e : s.data.toList = s.data.toList.take k ++ 46 :: s.data.toList.drop (k + 1) := by
    conv => lhs; rw [← List.take_append_drop k s.data.toList]
    rw [List.drop_eq_getElem_cons hl, (List.getElem?_eq_some_iff.1 hc).2]
  conv => lhs; rw [e]
  exact cutC_hit hi
theorem not_next {s : ByteArray} {k : Nat} {c : UInt8} (hi : (46 : UInt8) ∉ s.data.toList.take k) (hc : s[k]? = some c) (hn : ¬ c = 46) : (46 : UInt8) ∉ s.data.toList.take (k + 1) := by
  rw [get_data'] at hc
  rw [List.take_add_one, hc]
  intro q
  rcases List.mem_append.1 q with q | q
  · exact hi q
  · simp at q; exact hn q.symm
theorem tag_none_of {s : ByteArray} (h : (46 : UInt8) ∉ s.data.toList) : tagOf s = none := tag_cutC_no (cutC_miss h) fun q => absurd q.2 (by decide)
theorem tag_none_at {s : ByteArray} {k : Nat} (h : k = s.size) (hi : (46 : UInt8) ∉ s.data.toList.take k) : tagOf s = none := tag_none_of (by rw [h, ← ba_len, List.take_length] at hi; exact hi)
theorem okX_rightL9 {x : LensD} (h : rightL x = true) : okX x := by
  have z := rightL_size h
  refine ⟨?_, Nat.le_trans z.forth.1 (by decide), Nat.le_trans z.back.1 (by decide)⟩
  by_cases hk : x.kind = 2 ∨ x.kind = 3
  · exact Nat.le_trans (rightF_size (z.field.1 hk)).2.2.1 (by decide)
  · rw [z.field.2 hk]; exact Nat.zero_le _
theorem ref34ReadTag_any (s : ByteArray) (hs : s.size ≤ 1000000) : Contract Tryz.prog 56 [.sc (.string (s))] [.d (tD ((tagOf s).getD noTag)), .d (.sc (.bool ((tagOf s).isSome)))] := by
 refine T.fn [] Tryz.func56 ?_
 refine xloopR (fb := []) T.ok (Nat.le_of_ble_eq_true rfl) [0, 2] (fun (k : Nat) => [(4, .c (.d (.sc (.int .i64 (k : Nat)))))]) (fun k => k ≤ s.size ∧ (46 : UInt8) ∉ s.data.toList.take k) (fun k => s.size - k) 0 ⟨Nat.zero_le _, by simp⟩ (x_ent (by first | rfl | (simp only [Tr.get]; simp; done)) trivial) ?_
 rintro k ⟨hk, hi⟩
 refine x_len ?_
 refine br (fun hc1 => ?y1) (fun hc1 => ?n1)
 case' y1 =>
  obtain ⟨c, hc⟩ : ∃ c, s[k]? = some c := ⟨_, getElem?_pos s k (by omega)⟩
  first | refine x_ch (by exact str_ix hc) ?_ | refine x_chI (by exact str_ix hc) ?_
  refine br (fun hc2 => ?y2) (fun hc2 => ?n2)
  case' y2 =>
   have hcm : ¬ c = 46 := by rintro rfl; exact hc2 rfl
   first | refine x_inc ?_ (h := by (first | omega | (simp; omega))) | refine x_add ?_ (h := by first | exact IntWalk.i64_in _ (by (first | omega | (simp; omega))) | rfl) | refine x_bin rfl rfl ?_
   refine x_rnd (k + 1) ⟨by omega, not_next hi hc hcm⟩ (by (try dsimp only); omega) rfl (x_ent (by first | rfl | (simp only [Tr.get]; simp; done)) trivial) rfl
  case' n2 =>
   have hc46 : c = 46 := by rw [← UInt8.toNat_inj]; show c.toNat = 46; omega
   have hcut := cut_at hi (by rw [← hc46]; exact hc)
   have e1 : numW (s.extract 0 k) = readOf (s.data.toList.take k) := by show readOf _ = _; rw [ext_data, List.drop_zero]
   have e2 : numW (s.extract (k + 1) s.size) = readOf (s.data.toList.drop (k + 1)) := by show readOf _ = _; rw [ext_data, ← ba_len, List.take_length]
   have hz1 : (s.extract 0 k).size ≤ 1000000 := by rw [ByteArray.size_extract]; omega
   have hz2 : (s.extract (k + 1) s.size).size ≤ 1000000 := by rw [ByteArray.size_extract]; omega
   first | refine x_bnd ?_ | refine x_bndI ?_
   refine x_str ?_ (h1 := by (first | omega | (simp; omega))) (h2 := by (first | omega | (simp; omega)))
   refine x_call T.en_101 (by first | exact ref34Number_any (s.extract 0 k) hz1 | exact ref34Number_any (s.extract (k + 1) s.size) hz2) ?_
   first | refine x_inc ?_ (h := by (first | omega | (simp; omega))) | refine x_add ?_ (h := by first | exact IntWalk.i64_in _ (by (first | omega | (simp; omega))) | rfl) | refine x_bin rfl rfl ?_
   first | refine x_bnd ?_ | refine x_bndI ?_
   refine x_str ?_ (h1 := by (first | omega | (simp; omega))) (h2 := by (first | omega | (simp; omega)))
   refine x_call T.en_101 (by first | exact ref34Number_any (s.extract 0 k) hz1 | exact ref34Number_any (s.extract (k + 1) s.size) hz2) ?_
   refine br (fun hg3 => ?y3) (fun hg3 => ?n3)
   case' y3 =>
    have h1 := hg3
    refine br (fun hc4 => ?y4) (fun hc4 => ?n4)
    case' y4 =>
     have hY := tag_cutC hcut (by rw [← e1]; exact h1) (by rw [← e2]; exact hc4)
    case' n4 =>
     have hN := tag_cutC_no hcut (fun q => hc4 (by rw [e2]; exact q.2))
   case' n3 =>
    have hN := tag_cutC_no hcut (fun q => hg3 (by rw [e1]; exact q.1))
    refine brF ?_
 case' n1 =>
  have hN := tag_none_at (s := s) (k := k) (by omega) hi
 all_goals (refine x_ret ?_; simp only [fitsL, fits, C.asD, and_true] <;> (first | (rw [hN]; (first | rfl | (constructor <;> rfl))) | (rw [hY, e1, e2]; (first | rfl | (constructor <;> rfl)))))
theorem ref36ReadEdge_any (s : ByteArray) (hs : s.size ≤ 900000) (hws : ∀ a ∈ splitB s 0, a.size ≤ 900) : Contract Tryz.prog 15 [.sc (.string (s))] [.d (eD ((edgeS s).getD noEdge)), .d (.sc (.bool ((edgeS s).isSome)))] := by
 refine T.fn [] Tryz.func15 ?_
 have hsn := split_num (s := s)
 have hwz : ∀ i, (wd (splitB s 0) i).size ≤ 1000000 := fun i => Nat.le_trans (wd_few hws i) (by decide)
 refine x_call T.en_55 (refSplit_c s (by omega)) ?_
 refine x_len ?_
 refine br (fun hc1 => ?y1) (fun hc1 => ?n1)
 case' y1 =>
  have hN := edgeR_no (s := s) (fun e _ _ _ _ _ h9 => by omega)
 case' n1 =>
  have hl3 : ¬ (splitB s 0).length < 3 := by omega
  first | refine x_ix (by first | exact wd_ix (i := 0) rfl (by omega) | exact wd_ix (i := 1) rfl (by omega) | exact wd_ix (i := 2) rfl (by omega) | exact wd_ix (i := 3) rfl (by omega) | exact wd_ix (i := 4) rfl (by omega) | exact wd_ix (i := 5) rfl (by omega)) ?_ | refine x_ixI (by first | exact wd_ix (i := 0) rfl (by omega) | exact wd_ix (i := 1) rfl (by omega) | exact wd_ix (i := 2) rfl (by omega) | exact wd_ix (i := 3) rfl (by omega) | exact wd_ix (i := 4) rfl (by omega) | exact wd_ix (i := 5) rfl (by omega)) ?_
  refine x_call T.en_56 (ref34ReadTag_any (wd (splitB s 0) 0) (hwz 0)) ?_
  first | refine x_ix (by first | exact wd_ix (i := 0) rfl (by omega) | exact wd_ix (i := 1) rfl (by omega) | exact wd_ix (i := 2) rfl (by omega) | exact wd_ix (i := 3) rfl (by omega) | exact wd_ix (i := 4) rfl (by omega) | exact wd_ix (i := 5) rfl (by omega)) ?_ | refine x_ixI (by first | exact wd_ix (i := 0) rfl (by omega) | exact wd_ix (i := 1) rfl (by omega) | exact wd_ix (i := 2) rfl (by omega) | exact wd_ix (i := 3) rfl (by omega) | exact wd_ix (i := 4) rfl (by omega) | exact wd_ix (i := 5) rfl (by omega)) ?_
  refine x_call T.en_56 (ref34ReadTag_any (wd (splitB s 0) 1) (hwz 1)) ?_
  first | refine x_bnd ?_ | refine x_bndI ?_
  refine x_row ?_ (by first | exact str1_wide | exact strsl_wide _ | (intro x hx; cases hx)) (h1 := by ((try simp only [List.length_map]); omega)) (h2 := by ((try simp only [List.length_map]); omega)) (hy := by first | exact words_tl | exact rfl | rfl)
  refine x_call T.en_57 (ref36ParseLens_any ((splitB s 0).drop 2) (by rw [List.length_drop]; omega) (fun a ha => hws a (List.mem_of_mem_drop ha))) ?_
  refine br (fun hg2 => ?y2) (fun hg2 => ?n2)
  case' y2 =>
   have ht0 : tagOf (wd (splitB s 0) 0) = none := by cases hq : tagOf (wd (splitB s 0) 0) with | none => rfl | some r => rw [hq] at hg2; simp at hg2
   have hN := edgeR_no (s := s) (fun e _ _ h1 _ _ _ => by rw [ht0] at h1; cases h1)
   refine brT ?_
   refine brT ?_
   refine brT ?_
  case' n2 =>
   obtain ⟨a, ht0⟩ : ∃ r, tagOf (wd (splitB s 0) 0) = some r := by cases hq : tagOf (wd (splitB s 0) 0) with | none => rw [hq] at hg2; simp at hg2 | some r => exact ⟨r, rfl⟩
   rw [ht0]
   refine br (fun hg6 => ?y6) (fun hg6 => ?n6)
   case' y6 =>
    have ht1 : tagOf (wd (splitB s 0) 1) = none := by cases hq : tagOf (wd (splitB s 0) 1) with | none => rfl | some r => rw [hq] at hg6; simp at hg6
    have hN := edgeR_no (s := s) (fun e _ _ _ h1 _ _ => by rw [ht1] at h1; cases h1)
    refine brT ?_
    refine brT ?_
   case' n6 =>
    obtain ⟨b, ht1⟩ : ∃ r, tagOf (wd (splitB s 0) 1) = some r := by cases hq : tagOf (wd (splitB s 0) 1) with | none => rw [hq] at hg6; simp at hg6 | some r => exact ⟨r, rfl⟩
    rw [ht1]
    refine br (fun hg9 => ?y9) (fun hg9 => ?n9)
    case' y9 =>
     have hp3 : (parseRL ((splitB s 0).drop 2)).2 = false := by simpa using hg9
     have hN := edgeR_no (s := s) (fun e _ _ _ _ h1 _ => by rw [h1] at hp3; cases hp3)
     refine brT ?_
    case' n9 =>
     have hp3 : (parseRL ((splitB s 0).drop 2)).2 = true := by simpa using hg9
     have hok := okX_rightL9 (parseRL_yes hp3).1
     refine x_call T.en_11 (refEdge_any ⟨a, b, (parseRL ((splitB s 0).drop 2)).1⟩ hok) ?_
     refine br (fun hc11 => ?y11) (fun hc11 => ?n11)
     case' y11 =>
      have he : edgeB ⟨a, b, (parseRL ((splitB s 0).drop 2)).1⟩ = false := by simpa using hc11
      have hN := edgeR_no (s := s) (fun e k1 _ h1 h2 h3 _ => by rw [ht0] at h1; rw [ht1] at h2; injection h1 with h1; injection h2 with h2; rw [h3, h1, h2] at he; rw [show (⟨e.id, e.parent, e.lens⟩ : EdgeD) = e from rfl, k1] at he; cases he)
     case' n11 =>
      have he : edgeB ⟨a, b, (parseRL ((splitB s 0).drop 2)).1⟩ = true := by simpa using hc11
      have hY := edgeR_yes hl3 ht0 ht1 hp3 he
 all_goals (refine x_ret ?_; simp only [fitsL, fits, C.asD, and_true] <;> (first | (rw [hN]; (first | rfl | (constructor <;> rfl))) | (rw [hY]; (first | rfl | (constructor <;> rfl)))))
end Go.Vm
end
section
namespace Go.Vm
open Go.RowKit Go.Proofs
set_option maxRecDepth 10000
open Go.Proofs.YtmmffeldlhofiaaGreatDoor Punnet.Name Punnet.Num
def exT36 : ByteArray := ⟨#[49, 46, 49, 32, 48, 46, 48, 32, 119, 114, 97, 112, 32, 108, 105, 110, 101, 46, 110, 111, 116, 101, 32, 34, 34]⟩
def exE36 : EdgeD := ⟨⟨1, 1⟩, ⟨0, 0⟩, ⟨7, ⟨1, noB, ⟨#[110, 111, 116, 101]⟩⟩, noB, noB, 0, noField, [], []⟩⟩
def exL36 : LensD := ⟨6, ⟨1, noB, ⟨#[113, 116, 121]⟩⟩, ⟨#[117, 110, 105, 116]⟩, ⟨#[98, 111, 120]⟩, 12, noField, [], []⟩
theorem exE36_read : edgeS exT36 = some exE36 := edgeS_some (by decide +kernel) (by decide +kernel)
theorem exL36_right : rightL exL36 = true := by decide +kernel
theorem exL36_text : textL exL36 = ⟨#[115, 112, 108, 105, 116, 32, 108, 105, 110, 101, 46, 113, 116, 121, 32, 117, 110, 105, 116, 32, 98, 111, 120, 32, 49, 50]⟩ := by decide +kernel
theorem edge_words {x : EdgeD} (h : edgeB x = true) : ∀ a ∈ splitB (textE x) 0, a.size ≤ 900 := by
  rw [show splitB (textE x) 0 = edgeW x from split_line (by unfold edgeW; simp) (edgeW_whole h)]
  exact fun a ha => Nat.le_trans (edgeW_sizes h a ha) (by decide)
theorem awake36_any  : Contract Tryz.prog 8 [] [.d (.sc (.bool (true)))] := by
 refine T.fn [] Tryz.func8 ?_
 have c1 := skReadEdge_any exT36 (by decide) (fun a ha => Nat.le_trans (split_size ha) (by decide))
 rw [exE36_read] at c1
 have c2 := skLens_any exL36 ⟨by decide, by decide, by decide⟩
 rw [if_pos exL36_right, if_pos exL36_right, exL36_text] at c2
 refine x_call T.en_12 (c1) ?_
 refine x_call T.en_16 (c2) ?_
 refine brT ?_
 refine brT ?_
 refine xeq_23e ⟨1, 1⟩ ⟨1, 1⟩ ?_
 refine brT ?_
 refine brT ?_
 all_goals (refine x_ret ?_; simp only [fitsL, fits, C.asD, and_true] <;> (rfl))
end Go.Vm
end
section
namespace Go.Vm
open Go.Proofs.YtmmffeldlhofiaaGreatDoor
end Go.Vm
end
section
namespace Go.Vm
open Go.RowKit Go.Proofs
set_option maxRecDepth 10000
open Go.Proofs.YtmmffeldlhofiaaGreatDoor Punnet.Name Punnet.Num
end Go.Vm
end
section
namespace Go.Vm
open Go.RowKit Go.Proofs
set_option maxRecDepth 10000
open Go.Proofs.YtmmffeldlhofiaaGreatDoor Punnet.Name Punnet.Num
end Go.Vm
end
section
namespace Go.Proofs
open Go.Shelf
def Tryz.sortTag_ren : Go.Shelf.Ren := ⟨fun | 6 => 128 | 15 => 152 | 14 => 151 | 28 => 179 | 29 => 180 | 20 => 171 | 21 => 172 | 22 => 173 | 23 => 174 | 24 => 175 | 25 => 176 | 26 => 177 | 27 => 178 | 46 => 192 | 47 => 193 | 48 => 194 | 49 => 195 | 50 => 196 | 57 => 203 | n => n, fun | 22 => 85 | 24 => 23 | 25 => 171 | 3 => 3 | 39 => 188 | 0 => 0 | 53 => 216 | 55 => 174 | 4 => 4 | 46 => 209 | 45 => 208 | 50 => 213 | 5 => 5 | 9 => 9 | 66 => 226 | 70 => 230 | 76 => 234 | 77 => 157 | n => n, fun | n => n⟩
theorem Tryz.sortTag : Go.Proofs.SlLaysF0.n6 Tryz.prog Tryz.sortTag_ren := {
 mixed := by kernel_rfl
 f6 := ⟨Tryz.f128.name, by decide, Tryz.func128.trans (congrArg some (by kernel_rfl))⟩
 f14 := ⟨Tryz.f151.name, by decide, Tryz.func151.trans (congrArg some (by kernel_rfl))⟩
 f15 := Tryz.func152.trans (congrArg some (by kernel_rfl))
 f20 := ⟨Tryz.f171.name, by decide, Tryz.func171.trans (congrArg some (by kernel_rfl))⟩
 f21 := ⟨Tryz.f172.name, by decide, Tryz.func172.trans (congrArg some (by kernel_rfl))⟩
 f22 := ⟨Tryz.f173.name, by decide, Tryz.func173.trans (congrArg some (by kernel_rfl))⟩
 f23 := ⟨Tryz.f174.name, by decide, Tryz.func174.trans (congrArg some (by kernel_rfl))⟩
 f24 := ⟨Tryz.f175.name, by decide, Tryz.func175.trans (congrArg some (by kernel_rfl))⟩
 f25 := ⟨Tryz.f176.name, by decide, Tryz.func176.trans (congrArg some (by kernel_rfl))⟩
 f26 := ⟨Tryz.f177.name, by decide, Tryz.func177.trans (congrArg some (by kernel_rfl))⟩
 f27 := ⟨Tryz.f178.name, by decide, Tryz.func178.trans (congrArg some (by kernel_rfl))⟩
 f28 := Tryz.func179.trans (congrArg some (by kernel_rfl))
 f29 := Tryz.func180.trans (congrArg some (by kernel_rfl))
 f46 := ⟨Tryz.f192.name, by decide, Tryz.func192.trans (congrArg some (by kernel_rfl))⟩
 f47 := Tryz.func193.trans (congrArg some (by kernel_rfl))
 f48 := Tryz.func194.trans (congrArg some (by kernel_rfl))
 f49 := ⟨Tryz.f195.name, by decide, Tryz.func195.trans (congrArg some (by kernel_rfl))⟩
 f50 := ⟨Tryz.f196.name, by decide, Tryz.func196.trans (congrArg some (by kernel_rfl))⟩
 f57 := ⟨Tryz.f203.name, by decide, Tryz.func203.trans (congrArg some (by kernel_rfl))⟩
 t0 := Tryz.underlying0
 a0 := Tryz.isAgg0
 z0 := Tryz.sizeOf0
 v0 := Tryz.zeroValue0
 t3 := Tryz.underlying3
 a3 := Tryz.isAgg3
 z3 := Tryz.sizeOf3
 v3 := Tryz.zeroValue3
 t4 := Tryz.underlying4
 a4 := Tryz.isAgg4
 z4 := Tryz.sizeOf4
 v4 := Tryz.zeroValue4
 t5 := Tryz.underlying5
 a5 := Tryz.isAgg5
 z5 := Tryz.sizeOf5
 v5 := Tryz.zeroValue5
 t9 := Tryz.underlying9
 a9 := Tryz.isAgg9
 z9 := Tryz.sizeOf9
 v9 := Tryz.zeroValue9
 t22 := Tryz.underlying85
 a22 := Tryz.isAgg85
 z22 := Tryz.sizeOf85
 v22 := Tryz.zeroValue85
 t25 := Tryz.underlying171
 a25 := Tryz.isAgg171
 z25 := Tryz.sizeOf171
 v25 := Tryz.zeroValue171
 t39 := Tryz.underlying188
 a39 := Tryz.isAgg188
 z39 := Tryz.sizeOf188
 v39 := Tryz.zeroValue188
 t45 := Tryz.underlying208
 a45 := Tryz.isAgg208
 z45 := Tryz.sizeOf208
 v45 := Tryz.zeroValue208
 t46 := Tryz.underlying209
 a46 := Tryz.isAgg209
 z46 := Tryz.sizeOf209
 v46 := Tryz.zeroValue209
 t50 := Tryz.underlying213
 a50 := Tryz.isAgg213
 z50 := Tryz.sizeOf213
 v50 := Tryz.zeroValue213
 t53 := Tryz.underlying216
 a53 := Tryz.isAgg216
 z53 := Tryz.sizeOf216
 v53 := Tryz.zeroValue216
 t55 := Tryz.underlying174
 a55 := Tryz.isAgg174
 z55 := Tryz.sizeOf174
 v55 := Tryz.zeroValue174
 t66 := Tryz.underlying226
 a66 := Tryz.isAgg226
 z66 := Tryz.sizeOf226
 v66 := Tryz.zeroValue226
 t70 := Tryz.underlying230
 a70 := Tryz.isAgg230
 z70 := Tryz.sizeOf230
 v70 := Tryz.zeroValue230
 t76 := Tryz.underlying234
 a76 := Tryz.isAgg234
 z76 := Tryz.sizeOf234
 v76 := Tryz.zeroValue234
 t77 := Tryz.underlying157
 a77 := Tryz.isAgg157
 z77 := Tryz.sizeOf157
 v77 := Tryz.zeroValue157 }
end Go.Proofs
end
section
namespace Go.Vm
open Go.RowKit Go.Proofs Go.Sort Go.Lib
def encT (t : TagD) : List Value := [.int .i64 t.r, .int .i64 t.n]
def cfT (a b : TagD) : Int := if lessT a b = true then -1 else if lessT b a = true then 1 else 0
theorem cf_lt (a b : TagD) : ltOf cfT a b = lessT a b := by
 unfold ltOf cfT
 cases h : lessT a b with
 | true => simp
 | false => cases lessT b a <;> simp
theorem cf_ltF : ltOf cfT = lessT := by funext a b; exact cf_lt a b
theorem cf_le : (fun a b => !(ltOf cfT) b a) = leT := by rw [cf_ltF]; rfl
theorem less_kit (x y : TagD) (W : World) : Calls Tryz.prog 130 #[.agg #[.int .i64 x.r, .int .i64 x.n], .agg #[.int .i64 y.r, .int .i64 y.n]] W fun e w' => e = .returned (.bool (lessT x y)) ∧ ∃ q os', w' = grow (W.drewN q) os' := by
 have h0 : lessT x y = if x.r = y.r then decide (x.n < y.n) else decide (x.r < y.r) := rfl
 generalize lessT x y = R at h0 ⊢
 obtain ⟨xr, xn⟩ := x
 obtain ⟨yr, yn⟩ := y
 simp only at h0 ⊢
 go_enter Tryz.func130, Tryz.ntmps130
 go_wp2
 all_goals (go_ret; refine ⟨?_, 0, _, by rw [alloc_eq_grow, alloc_eq_grow, grow_grow]; rfl⟩)
 all_goals (subst h0; simp_all)
theorem drewN_grow (w : World) (os : Array Obj) (n : Nat) : (grow w os).drewN n = grow (w.drewN n) os := rfl
theorem cell_grown {w w' : World} {q : Nat} {os : Array Obj} {p : Addr} (h : w' = grow (w.drewN q) os) (hp : p.block < w.heap.size) : w'.cell? p = w.cell? p := by rw [h]; exact cell?_grow _ _ _ hp
theorem drewN_drewN (w : World) (a b : Nat) : (w.drewN a).drewN b = w.drewN (a + b) := by simp [World.drewN, Nat.add_assoc]
theorem one_grown {W w1 : World} {a b : Obj} {q1 : Nat} {os1 : Array Obj} (h1 : RowKit.Hid (w1 = grow (((W.alloc a).alloc b).drewN q1) os1)) : ∃ os, w1 = grow (W.drewN q1) os := by
 have e1 : w1 = _ := h1
 rw [e1, alloc_eq_grow, alloc_eq_grow, grow_grow, drewN_grow, grow_grow]
 exact ⟨_, rfl⟩
theorem two_grown {W w1 w2 : World} {a b : Obj} {q1 q2 : Nat} {os1 os2 : Array Obj} (h1 : RowKit.Hid (w1 = grow (((W.alloc a).alloc b).drewN q1) os1)) (h2 : RowKit.Hid (w2 = grow (w1.drewN q2) os2)) : ∃ os, w2 = grow (W.drewN (q1 + q2)) os := by
 have e1 : w1 = _ := h1
 have e2 : w2 = _ := h2
 rw [e2, e1, alloc_eq_grow, alloc_eq_grow, grow_grow, drewN_grow, grow_grow, drewN_grow, drewN_grow, drewN_drewN, grow_grow]
 exact ⟨_, rfl⟩
theorem less_kit2 : ∃ L : Int → Int → Int → Int → Bool, (∀ a b c d, L a b c d = lessT ⟨a, b⟩ ⟨c, d⟩) ∧ ∀ a b c d W, Calls Tryz.prog 130 #[.agg #[.int .i64 a, .int .i64 b], .agg #[.int .i64 c, .int .i64 d]] W fun e w' => e = .returned (.bool (L a b c d)) ∧ ∃ q os', w' = grow (W.drewN q) os' :=
 ⟨fun a b c d => lessT ⟨a, b⟩ ⟨c, d⟩, fun _ _ _ _ => rfl, fun a b c d W => less_kit ⟨a, b⟩ ⟨c, d⟩ W⟩
theorem cmp_any (x y : TagD) (W : World) : Calls Tryz.prog 129 #[.agg #[.int .i64 x.r, .int .i64 x.n], .agg #[.int .i64 y.r, .int .i64 y.n]] W fun e w' => e = .returned (.int .i64 (cfT x y)) ∧ ∃ q os', w' = grow (W.drewN q) os' := by
 obtain ⟨L, hL, c⟩ := less_kit2
 obtain ⟨xr, xn⟩ := x
 obtain ⟨yr, yn⟩ := y
 have h0 : cfT ⟨xr, xn⟩ ⟨yr, yn⟩ = if L xr xn yr yn = true then -1 else if L yr yn xr xn = true then 1 else 0 := by rw [hL, hL]; rfl
 clear hL
 generalize cfT ⟨xr, xn⟩ ⟨yr, yn⟩ = R at h0 ⊢
 have H0 := Lib.hid h0
 clear h0
 simp only
 cases h1 : L xr xn yr yn with
 | true =>
  go_enter Tryz.func129, Tryz.ntmps129
  go_wp2_with (go_at_call 130; refine (c _ _ _ _ _).mono ?_; rintro e w1 ⟨rfl, q1, os1, hw1⟩; have hc := fun (p : Addr) (hp : p.block < _) => cell_grown (p := p) hw1 hp; have HW1 := Lib.hid hw1; clear hw1)
  go_ret
  have h0 : R = _ := H0
  exact ⟨by rw [h0, h1]; rfl, q1, one_grown HW1⟩
 | false => cases h2 : L yr yn xr xn with
  | true =>
   go_enter Tryz.func129, Tryz.ntmps129
   go_wp2_with (first | (have z0 := q1; (go_at_call 130; refine (c _ _ _ _ _).mono ?_; rintro e w2 ⟨rfl, q2, os2, hw2⟩; have HW2 := Lib.hid hw2; clear hw2)) | (go_at_call 130; refine (c _ _ _ _ _).mono ?_; rintro e w1 ⟨rfl, q1, os1, hw1⟩; have hc := fun (p : Addr) (hp : p.block < _) => cell_grown (p := p) hw1 hp; have HW1 := Lib.hid hw1; clear hw1))
   go_ret
   have h0 : R = _ := H0
   exact ⟨by rw [h0, h1, h2]; rfl, q1 + q2, two_grown HW1 HW2⟩
  | false =>
   go_enter Tryz.func129, Tryz.ntmps129
   go_wp2_with (first | (have z0 := q1; (go_at_call 130; refine (c _ _ _ _ _).mono ?_; rintro e w2 ⟨rfl, q2, os2, hw2⟩; have HW2 := Lib.hid hw2; clear hw2)) | (go_at_call 130; refine (c _ _ _ _ _).mono ?_; rintro e w1 ⟨rfl, q1, os1, hw1⟩; have hc := fun (p : Addr) (hp : p.block < _) => cell_grown (p := p) hw1 hp; have HW1 := Lib.hid hw1; clear hw1))
   go_ret
   have h0 : R = _ := H0
   exact ⟨by rw [h0, h1, h2]; rfl, q1 + q2, two_grown HW1 HW2⟩
end Go.Vm
end
section
namespace Go.Vm
open Go.RowKit Go.Proofs Go.Sort Go.Lib
instance : Inhabited TagD := ⟨noTag⟩
theorem flat_tags : ∀ (ts : List TagD), flat (ts.map tD) = (ts.flatMap encT).map D.sc
  | [] => rfl
  | t :: ts => by
    have := flat_tags ts
    simp only [flat] at this
    simp [flat, tD, D.cells, encT, this]
theorem plain_enc (ts : List TagD) : ∀ u ∈ ts.flatMap encT, plainV u = true := by
  intro u hu
  obtain ⟨t, _, h⟩ := List.mem_flatMap.1 hu
  simp [encT] at h
  rcases h with rfl | rfl <;> rfl
theorem reps_sc {ro : Roles} {w : World} {us vs : List Value} (h : Reps ro w us (vs.map D.sc)) : us = vs := by
  refine List.ext_getElem? fun j => ?_
  have hl : us.length = vs.length := by simpa using h.1
  cases hu : us[j]? with
  | none =>
    rw [List.getElem?_eq_none_iff] at hu
    exact (List.getElem?_eq_none (by omega)).symm
  | some u =>
    have hlt := (List.getElem?_eq_some_iff.1 hu).1
    have hv : vs[j]? = some vs[j] := List.getElem?_eq_getElem (by omega)
    have := h.2.2 j u (.sc vs[j]) hu (by rw [List.getElem?_map, hv]; rfl)
    rw [hv, (rep_sc this).1]
theorem sc_reps {ro : Roles} {w : World} {vs : List Value} (h : ∀ u ∈ vs, plainV u = true) : Reps ro w vs (vs.map D.sc) := by
  refine ⟨by simp, fun u hu => plainV_one (h u hu), fun j u c hu hc => ?_⟩
  rw [List.getElem?_map, hu] at hc
  injection hc with hc
  subst hc
  exact .sc (h u (List.mem_of_getElem? hu))
theorem flat_enc_len (ts : List TagD) : (ts.flatMap encT).length = ts.length * 2 := by
  induction ts with
  | nil => rfl
  | cons t ts ih => rw [List.flatMap_cons, List.length_append, ih, List.length_cons, Nat.add_mul]; simp [encT]; omega
theorem flat_enc_at : ∀ (ts : List TagD) (t : Nat), t < ts.length * 2 → (ts.flatMap encT)[t]? = some ((encT ts[t / 2]!)[t % 2]!)
  | [], t, h => by simp at h
  | x :: ts, 0, _ => rfl
  | x :: ts, 1, _ => rfl
  | x :: ts, t + 2, h => by
    rw [List.flatMap_cons, List.getElem?_append_right (by simp [encT])]
    have e : t + 2 - (encT x).length = t := by simp [encT]
    rw [e, flat_enc_at ts t (by rw [List.length_cons] at h; omega)]
    rw [show (t + 2) / 2 = t / 2 + 1 by omega, show (t + 2) % 2 = t % 2 by omega]
    simp
theorem flatK_eq (ts : List TagD) : flatK encT 2 ts.toArray = (ts.flatMap encT).toArray := by
  refine Array.ext (by rw [size_flatK, List.size_toArray, List.size_toArray, flat_enc_len]) fun t h1 h2 => ?_
  have hlt : t < ts.length * 2 := by simpa using h1
  have h3 := get_flatK encT 2 ts.toArray t (by simpa using hlt)
  rw [getElem!_pos _ t h1] at h3
  rw [h3]
  have h4 := flat_enc_at ts t hlt
  have h5 : (ts.flatMap encT).toArray[t]? = (ts.flatMap encT)[t]? := by simp
  rw [Array.getElem?_eq_getElem h2, h4] at h5
  injection h5 with h5
  rw [h5]; simp
theorem cf_swo : SWO (ltOf cfT) := by
  rw [cf_ltF]
  exact ⟨lessT_irrefl, fun _ _ _ h k => lessT_trans h k, fun _ _ _ h k => lessT_ntrans h k⟩
theorem cf_parts : ∀ x y, (ltOf cfT) x y = false → (ltOf cfT) y x = false → x = y := by
  rw [cf_ltF]
  exact fun _ _ h k => lessT_total h k
theorem rep_fn {ro : Roles} {w : World} {v : Value} {f : FuncId} (h : Rep ro w v (.fn f [])) : v = .func (.func f) #[] #[] := by
  cases h with
  | @fn f cap cs hl _ => obtain rfl : cap = #[] := Array.eq_empty_of_size_eq_zero (by simpa using hl); rfl
theorem tags_sort (ts : List TagD) (hn : ts.length ≤ 1000000) : InPlace Tryz.prog 128 2 (ts.map tD) ((sortT ts).map tD) (.fn 129 []) := by
  intro ro w fv hfv
  obtain rfl := rep_fn hfv
  refine ⟨fun _ => AnyF.slices_SortFunc_none Tryz.sortTag none 0 _ w, fun b cap arr e hh hcap hm hsz hr => ?_⟩
  rw [List.length_map] at hcap hr ⊢
  rw [flat_tags] at hr
  have hus := reps_sc hr
  have hlt := block_lt hh
  have hle : ts.length * 2 ≤ arr.size := by rw [hsz]; exact Nat.mul_le_mul_right _ hcap
  have hcell : ∀ j, w.cell? ⟨b, j, none⟩ = arr[j]? := fun j => by
    have := cell_of_row w b j arr e (0, 0) hh
    simpa using this
  have hget : ∀ j, j < ts.length * 2 → arr[j]? = some ((ts.flatMap encT).toArray[j]!) := by
    intro j hj
    have h1 : (arr.toList.take (ts.length * 2))[j]? = (ts.flatMap encT)[j]? := by rw [hus]
    rw [List.getElem?_take, if_pos hj] at h1
    have h2 : j < (ts.flatMap encT).length := by rw [flat_enc_len]; exact hj
    rw [getElem!_pos _ j (by simpa using h2)]
    rw [List.getElem?_eq_getElem h2] at h1
    simpa using h1
  have hH : HoldsK encT 2 w b 0 ts.toArray := by
    unfold HoldsK
    rw [flatK_eq]
    intro j hj
    have hj2 : j < ts.length * 2 := by rw [List.size_toArray, flat_enc_len] at hj; exact hj
    rw [Nat.zero_add]
    refine ⟨by rw [hcell, hget j hj2]; rfl, ?_⟩
    simp [World.frozen?, hh]
  have hcon := AnyQ.slices_SortFunc_total Tryz.sortTag 2 Tryz.isAgg23 Tryz.sizeOf23 encT (fun _ => rfl) (fun x v hv => by simp [encT] at hv; rcases hv with rfl | rfl <;> rfl) cfT cf_swo 129 #[] b 0 cap ts.toArray w (enters_of Tryz.func129 (by kernel_rfl) rfl) (fun _ _ _ _ x y => cmp_any x y _) hH hlt (by simp; omega) cf_parts
  rw [cf_le] at hcon
  refine hcon.mono ?_
  rintro e' w' ⟨rfl, n, os, rfl⟩
  have hsl := sortT_len ts
  have hfk : flatK encT 2 (List.mergeSort ts.toArray.toList leT).toArray = ((sortT ts).flatMap encT).toArray := flatK_eq (sortT ts)
  have hb2 : (mapBlock (Sort.ahead w n) b (putCells id 0 (flatK encT 2 (List.mergeSort ts.toArray.toList leT).toArray))).heap.size = w.heap.size := by simp [mapBlock, Sort.ahead]
  have hat : ∀ k, k < w.heap.size → (sortWorldK encT 2 w b 0 n (List.mergeSort ts.toArray.toList leT).toArray os).heap[k]? = if b = k then some (.cells (putCells id 0 ((sortT ts).flatMap encT).toArray arr) e (0, 0)) else w.heap[k]? := by
    intro k hk
    unfold sortWorldK putRowK putRow
    rw [hfk]
    have h1 : (grow (mapBlock (Sort.ahead w n) b (putCells id 0 ((sortT ts).flatMap encT).toArray)) os).heap[k]? = (mapBlock (Sort.ahead w n) b (putCells id 0 ((sortT ts).flatMap encT).toArray)).heap[k]? := by
      unfold grow
      exact Array.getElem?_append_left (by simpa [mapBlock, Sort.ahead] using hk)
    rw [h1]
    show (w.heap.modify b (onCells _))[k]? = _
    rw [Array.getElem?_modify]
    split
    · rename_i e2; subst e2; rw [hh]; rfl
    · rfl
  refine ⟨rfl, rfl, rfl, rfl, size_sortWorldK_c encT 2 w b 0 n _ os, fun k hk hne => ?_, putCells id 0 ((sortT ts).flatMap encT).toArray arr, ?_, ?_, ?_⟩
  · rw [hat k hk, if_neg (fun e2 => hne e2.symm)]
  · rw [hat b hlt, if_pos rfl]
  · simp [putCells]
  · have e2 : (putCells id 0 ((sortT ts).flatMap encT).toArray arr).toList.take (ts.length * 2) = (sortT ts).flatMap encT := by
      refine List.ext_getElem? fun j => ?_
      rw [List.getElem?_take]
      have hfl := flat_enc_len (sortT ts)
      split
      · rename_i hj
        have hj2 : j < arr.size := by omega
        have hj3 : j < ((sortT ts).flatMap encT).length := by omega
        generalize (sortT ts).flatMap encT = F at hj3 ⊢
        simp [putCells, hj2, hj3]
      · rename_i hj
        exact (List.getElem?_eq_none (by omega)).symm
    rw [e2, flat_tags]
    exact sc_reps (plain_enc _)
end Go.Vm
end
section
namespace Go.Vm
open Go.RowKit Go.Proofs
set_option maxRecDepth 10000
theorem schemaRoot_any  : Contract Tryz.prog 165 [] [.d (.row (rootS.map fD))] := by
 refine T.fn [] Tryz.func165 ?_
 all_goals (refine x_ret ?_; simp only [fitsL, fits, C.asD, and_true] <;> (rfl))
theorem at_any (t m : Nat) (ht : NAM ≤ t) (hm : NAM ≤ m) (htm : ¬ t = m) (l : List (TagD × NodeD)) (id : TagD) : ContractH Tryz.prog 149 [.ptr t 0, tD id] [(t, .obj [.mp m]), (m, .mapo (ents l))] [.d (nD (atT l id))] [(t, .obj [.mp m]), (m, .mapo (ents l))] := by
 refine T.fnH [15] Tryz.func149 ?_ (by simp only [List.forall_mem_cons, List.not_mem_nil, false_implies, implies_true, and_true]; exact ⟨ht, hm⟩) (by simp [thing]) (by simp [thing])
 have hmt : ¬ m = t := fun e => htm e.symm
 refine And.intro ⟨T.mixed, by decide +kernel⟩ ?_
 refine x_call T.en_89 (root_any) ?_
 first | refine xeq_23e _ _ ?_ | refine xeq_23e _ noTag ?_ | refine xeq_23e noTag _ ?_
 refine br (fun hc1 => ?y1) (fun hc1 => ?n1)
 case' y1 =>
  refine x_call T.en_165 (schemaRoot_any) ?_
 case' n1 =>
  refine And.intro ⟨T.mixed, by decide +kernel⟩ ?_
  refine x_obj ht (by first | rfl | (simp only [hOf, hset, hpost, htm, hmt, if_true, if_false, not_false_eq_true]; first | done | rfl)) ?_
  refine q_look ?_ ⟨hm, (by first | rfl | (simp only [hOf, hset, hpost, htm, hmt, if_true, if_false, not_false_eq_true]; first | done | rfl))⟩ tagKey ⟨_, rfl⟩ (ents_keys _) Tryz.underlying126 zeroNode (look_node _ _)
 all_goals (refine ⟨?_, ⟨⟨ht, (by first | rfl | (simp only [hOf, hset, hpost, htm, hmt, if_true, if_false, not_false_eq_true]; first | done | rfl))⟩, ⟨hm, (by first | rfl | (simp only [hOf, hset, hpost, htm, hmt, if_true, if_false, not_false_eq_true]; first | done | rfl))⟩, trivial⟩⟩; simp only [fitsL, fits, C.asD, and_true] <;> (first | (rw [at_root (by assumption)]; rfl) | (rw [at_other (by assumption)]; rfl)))
end Go.Vm
end
section
namespace Go.Vm
open Go.RowKit Go.Proofs
set_option maxRecDepth 10000
end Go.Vm
end
section
namespace Go.Vm
open Go.RowKit Go.Proofs
set_option maxRecDepth 10000
theorem first_rfl {α : Type} {a : α} : a = a := rfl
theorem refSorted_any (E : List EdgeD) (hE : E.length ≤ 1000) : Contract Tryz.prog 38 [.row (E.map eD)] [.d (.row ((sortE E).map eD))] := by
 refine T.fn [3] Tryz.func38 ?_
 refine x_frz ?_
 refine xloopR (fb := [3]) T.ok (Nat.le_of_ble_eq_true rfl) [0] (fun (s : Nat × List EdgeD) => [(4, .c (.d (.sc (.int .i64 ((s.1 : Nat) : Int))))), (3, .c (.d (.row (s.2.map eD))))]) (fun s => s.1 ≤ E.length ∧ s.2 = sortE (E.take s.1)) (fun s => E.length - s.1) (0, []) ⟨Nat.zero_le _, rfl⟩ (x_ent (by first | rfl | (simp only [Tr.get]; simp; done)) (x_ent (by first | rfl | (simp only [Tr.get]; simp; done)) trivial)) ?_
 rintro s ⟨hk, hA⟩
 have hAl : s.2.length ≤ 1000 := by rw [hA, sortE_len, List.length_take]; omega
 refine x_len ?_
 refine br (fun hc1 => ?y1) (fun hc1 => ?n1)
 case' y1 =>
  obtain ⟨p, hp⟩ := elem_at hc1
  have hkl := lt_len hp
  refine xloopR (fb := [3]) T.ok (Nat.le_of_ble_eq_true rfl) [0, 3, 4] (fun (j : Nat) => [(5, .c (.d (.sc (.int .i64 ((j : Nat) : Int)))))]) (fun j => j ≤ s.2.length ∧ ∀ i x, i < j → s.2[i]? = some x → lessT x.id p.id = true) (fun j => s.2.length - j) 0 ⟨Nat.zero_le _, fun i x hi => absurd hi (Nat.not_lt_zero _)⟩ (x_ent (by first | rfl | (simp only [Tr.get]; simp; done)) trivial) ?_
  rintro j hj
  refine And.intro ⟨T.mixed, by decide +kernel⟩ ?_
  refine x_len ?_
  refine br (fun hg2 => ?y2) (fun hg2 => ?n2)
  case' y2 =>
   have hql : j < s.2.length := by omega
   have hq := List.getElem?_eq_getElem hql
   first | refine x_ix (by first | exact mapAt hq | exact mapAt hp) ?_ | refine x_ixI (by first | exact mapAt hq | exact mapAt hp) ?_
   first | refine x_ix (by first | exact mapAt hq | exact mapAt hp) ?_ | refine x_ixI (by first | exact mapAt hq | exact mapAt hp) ?_
   refine x_call T.en_84 (refLess_tag _ _) ?_
   refine br (fun hc3 => ?y3) (fun hc3 => ?n3)
   case' y3 =>
    have hle := hc3
    first | refine x_inc ?_ | refine x_add ?_ | refine x_bin rfl rfl ?_
    refine x_rnd (j + 1) ⟨lt_len hq, fun i x hi hx => (Nat.lt_succ_iff_lt_or_eq.1 hi).elim (fun h => hj.2 i x h hx) (fun e => by subst e; rw [hq] at hx; injection hx with hx; subst hx; exact hle)⟩ (by (try dsimp only); have := lt_len hq; omega) rfl (x_ent (by first | rfl | (simp only [Tr.get]; simp; done)) trivial) rfl
   case' n3 =>
    have hjq : ∀ x, s.2[j]? = some x → lessT x.id p.id = false := fun x hx => by rw [hq] at hx; injection hx with hx; subst hx; simpa using hc3
    first | refine x_bnd ?_ | refine x_bndI ?_
    refine x_row ?_ (by first | exact eDs_wide _ | exact eD_wide | exact tDs_wide _ | exact tD_wide | (simp [D.cells])) (hy := by first | exact snoc_map | exact one_map | exact List.map_take.symm | exact slice_drop | exact rfl | rfl)
    first | refine x_app ?_ (by first | exact eDs_wide _ | exact eD_wide | exact tDs_wide _ | exact tD_wide | (simp [D.cells])) (hz := by first | exact snoc_map | exact one_map | exact List.map_take.symm | exact slice_drop | exact rfl | rfl) | refine x_appN ?_ (by first | exact eDs_wide _ | exact eD_wide | exact tDs_wide _ | exact tD_wide | (simp [D.cells]))
    first | refine x_ix (by first | exact mapAt hq | exact mapAt hp) ?_ | refine x_ixI (by first | exact mapAt hq | exact mapAt hp) ?_
    first | refine x_app ?_ (by first | exact eDs_wide _ | exact eD_wide | exact tDs_wide _ | exact tD_wide | (simp [D.cells])) (hz := by first | exact snoc_map | exact one_map | exact List.map_take.symm | exact slice_drop | exact rfl | rfl) | refine x_appN ?_ (by first | exact eDs_wide _ | exact eD_wide | exact tDs_wide _ | exact tD_wide | (simp [D.cells]))
    first | refine x_bnd ?_ | refine x_bndI ?_
    refine x_row ?_ (by first | exact eDs_wide _ | exact eD_wide | exact tDs_wide _ | exact tD_wide | (simp [D.cells])) (hy := by first | exact snoc_map | exact one_map | exact List.map_take.symm | exact slice_drop | exact rfl | rfl)
    first | refine x_app ?_ (by first | exact eDs_wide _ | exact eD_wide | exact tDs_wide _ | exact tD_wide | (simp [D.cells])) (hz := by first | exact snoc_map | exact one_map | exact List.map_take.symm | exact slice_drop | exact rfl | rfl) | refine x_appN ?_ (by first | exact eDs_wide _ | exact eD_wide | exact tDs_wide _ | exact tD_wide | (simp [D.cells]))
    refine x_frz ?_
    first | refine x_inc ?_ | refine x_add ?_ | refine x_bin rfl rfl ?_
    refine x_rnd (s.1 + 1, insE p s.2) ⟨lt_len hp, by rw [sortE_take hp, hA]⟩ (by (try dsimp only); have := lt_len hp; (try dsimp only); omega) rfl (x_ent (by first | rfl | (simp only [Tr.get]; simp; done)) (x_ent (by have hins := insE_at p s.2 j hj.1 hj.2 hjq; simp only [Tr.get]; rw [← hins]; simp) trivial)) rfl
  case' n2 =>
   have hjq : ∀ x, s.2[j]? = some x → lessT x.id p.id = false := fun x hx => by have := lt_len hx; omega
   refine brF ?_
   first | refine x_bnd ?_ | refine x_bndI ?_
   refine x_row ?_ (by first | exact eDs_wide _ | exact eD_wide | exact tDs_wide _ | exact tD_wide | (simp [D.cells])) (hy := by first | exact snoc_map | exact one_map | exact List.map_take.symm | exact slice_drop | exact rfl | rfl)
   first | refine x_app ?_ (by first | exact eDs_wide _ | exact eD_wide | exact tDs_wide _ | exact tD_wide | (simp [D.cells])) (hz := by first | exact snoc_map | exact one_map | exact List.map_take.symm | exact slice_drop | exact rfl | rfl) | refine x_appN ?_ (by first | exact eDs_wide _ | exact eD_wide | exact tDs_wide _ | exact tD_wide | (simp [D.cells]))
   first | refine x_ix (by first | exact mapAt hq | exact mapAt hp) ?_ | refine x_ixI (by first | exact mapAt hq | exact mapAt hp) ?_
   first | refine x_app ?_ (by first | exact eDs_wide _ | exact eD_wide | exact tDs_wide _ | exact tD_wide | (simp [D.cells])) (hz := by first | exact snoc_map | exact one_map | exact List.map_take.symm | exact slice_drop | exact rfl | rfl) | refine x_appN ?_ (by first | exact eDs_wide _ | exact eD_wide | exact tDs_wide _ | exact tD_wide | (simp [D.cells]))
   first | refine x_bnd ?_ | refine x_bndI ?_
   refine x_row ?_ (by first | exact eDs_wide _ | exact eD_wide | exact tDs_wide _ | exact tD_wide | (simp [D.cells])) (hy := by first | exact snoc_map | exact one_map | exact List.map_take.symm | exact slice_drop | exact rfl | rfl)
   first | refine x_app ?_ (by first | exact eDs_wide _ | exact eD_wide | exact tDs_wide _ | exact tD_wide | (simp [D.cells])) (hz := by first | exact snoc_map | exact one_map | exact List.map_take.symm | exact slice_drop | exact rfl | rfl) | refine x_appN ?_ (by first | exact eDs_wide _ | exact eD_wide | exact tDs_wide _ | exact tD_wide | (simp [D.cells]))
   refine x_frz ?_
   first | refine x_inc ?_ | refine x_add ?_ | refine x_bin rfl rfl ?_
   refine x_rnd (s.1 + 1, insE p s.2) ⟨lt_len hp, by rw [sortE_take hp, hA]⟩ (by (try dsimp only); have := lt_len hp; (try dsimp only); omega) rfl (x_ent (by first | rfl | (simp only [Tr.get]; simp; done)) (x_ent (by have hins := insE_at p s.2 j hj.1 hj.2 hjq; simp only [Tr.get]; rw [← hins]; simp) trivial)) rfl
 all_goals (refine x_ret ?_; simp only [fitsL, fits, C.asD, and_true] <;> (refine row_inj ?_; rw [hA, List.take_of_length_le (past_end (by assumption))]))
theorem refSameEdges_any (E F : List EdgeD) (hE : E.length ≤ 1000) (hok : ∀ e ∈ E, okX e.lens) : Contract Tryz.prog 41 [.row (E.map eD), .row (F.map eD)] [.d (.sc (.bool (decide (E = F))))] := by
 refine T.fn [] Tryz.func41 ?_
 refine x_len ?_
 refine x_len ?_
 refine br (fun hc1 => ?y1) (fun hc1 => ?n1)
 case' n1 =>
  have hlen : E.length = F.length := by omega
  refine xloopR (fb := []) T.ok (Nat.le_of_ble_eq_true rfl) [0, 1] (fun (k : Nat) => [(5, .c (.d (.sc (.int .i64 (k : Nat)))))]) (fun k => k ≤ E.length ∧ E.take k = F.take k) (fun k => E.length - k) 0 ⟨Nat.zero_le _, rfl⟩ (x_ent (by first | rfl | (simp only [Tr.get]; simp; done)) trivial) ?_
  rintro k ⟨hk, hi⟩
  refine x_len ?_
  refine br (fun hc2 => ?y2) (fun hc2 => ?n2)
  case' y2 =>
   obtain ⟨p, hp⟩ := elem_at hc2
   have hkl := lt_len hp
   obtain ⟨q, hq⟩ := elem_too hp hlen
   have hoX := hok p (List.mem_of_getElem? hp)
   refine And.intro ⟨T.mixed, by decide +kernel⟩ ?_
   first | refine x_ix (by first | exact mapAt hp | exact mapAt hq) ?_ | refine x_ixI (by first | exact mapAt hp | exact mapAt hq) ?_
   first | refine x_ix (by first | exact mapAt hp | exact mapAt hq) ?_ | refine x_ixI (by first | exact mapAt hp | exact mapAt hq) ?_
   refine x_call T.en_14 (refSame_any p q hoX) ?_
   refine br (fun hc3 => ?y3) (fun hc3 => ?n3)
   case' n3 =>
    first | refine x_inc ?_ | refine x_add ?_ | refine x_bin rfl rfl ?_
    refine x_rnd (k + 1) ⟨lt_len hp, take_eq_next hp hq hi (by simp_all)⟩ (by (try dsimp only); have := lt_len hp; omega) rfl (x_ent (by first | rfl | (simp only [Tr.get]; simp; done)) trivial) rfl
 all_goals (refine x_ret ?_; simp only [fitsL, fits, C.asD, and_true] <;> (refine scb ?_; first | exact (decide_eq_false (fun e => by simp_all)).symm | exact (decide_eq_false (ne_at hp hq (fun e => by simp_all))).symm | exact (decide_eq_true (take_eq_end hlen (past_end (by assumption)) hi)).symm))
theorem refSameTags_any (E F : List TagD) (hE : E.length ≤ 1001) : Contract Tryz.prog 43 [.row (E.map tD), .row (F.map tD)] [.d (.sc (.bool (decide (E = F))))] := by
 refine T.fn [] Tryz.func43 ?_
 refine x_len ?_
 refine x_len ?_
 refine br (fun hc1 => ?y1) (fun hc1 => ?n1)
 case' n1 =>
  have hlen : E.length = F.length := by omega
  refine xloopR (fb := []) T.ok (Nat.le_of_ble_eq_true rfl) [0, 1] (fun (k : Nat) => [(5, .c (.d (.sc (.int .i64 (k : Nat)))))]) (fun k => k ≤ E.length ∧ E.take k = F.take k) (fun k => E.length - k) 0 ⟨Nat.zero_le _, rfl⟩ (x_ent (by first | rfl | (simp only [Tr.get]; simp; done)) trivial) ?_
  rintro k ⟨hk, hi⟩
  refine x_len ?_
  refine br (fun hc2 => ?y2) (fun hc2 => ?n2)
  case' y2 =>
   obtain ⟨p, hp⟩ := elem_at hc2
   have hkl := lt_len hp
   obtain ⟨q, hq⟩ := elem_too hp hlen
   refine And.intro ⟨T.mixed, by decide +kernel⟩ ?_
   first | refine x_ix (by first | exact mapAt hp | exact mapAt hq) ?_ | refine x_ixI (by first | exact mapAt hp | exact mapAt hq) ?_
   first | refine x_ix (by first | exact mapAt hp | exact mapAt hq) ?_ | refine x_ixI (by first | exact mapAt hp | exact mapAt hq) ?_
   first | refine xeq_23n _ _ ?_ | refine xeq_23n _ noTag ?_ | refine xeq_23n noTag _ ?_
   refine br (fun hc3 => ?y3) (fun hc3 => ?n3)
   case' n3 =>
    first | refine x_inc ?_ | refine x_add ?_ | refine x_bin rfl rfl ?_
    refine x_rnd (k + 1) ⟨lt_len hp, take_eq_next hp hq hi (by simp_all)⟩ (by (try dsimp only); have := lt_len hp; omega) rfl (x_ent (by first | rfl | (simp only [Tr.get]; simp; done)) trivial) rfl
 all_goals (refine x_ret ?_; simp only [fitsL, fits, C.asD, and_true] <;> (refine scb ?_; first | exact (decide_eq_false (fun e => by simp_all)).symm | exact (decide_eq_false (ne_at hp hq (fun e => by simp_all))).symm | exact (decide_eq_true (take_eq_end hlen (past_end (by assumption)) hi)).symm))
theorem refTreePut_any (E : List EdgeD) (e : EdgeD) (hE : E.length ≤ 1000) (hok : ∀ e ∈ E, okX e.lens) (he : okX e.lens) : Contract Tryz.prog 82 [.row (E.map eD), eD e] [.d (.row ((putE E e).1.map eD)), .d (.sc (.int .i64 (putE E e).2))] := by
 refine T.fn [] Tryz.func82 ?_
 refine x_call T.en_11 (refEdge_any _ (by assumption)) ?_
 refine br (fun hc1 => ?y1) (fun hc1 => ?n1)
 case' y1 =>
  have hpu := put_e5 (E := E) (e := e) (by simpa using hc1)
 case' n1 =>
  have hb : edgeB e = true := by simpa using hc1
  refine x_call T.en_125 (refAt_any E e.id hE) ?_
  refine And.intro ⟨T.mixed, by decide +kernel⟩ ?_
  refine br (fun hg2 => ?y2) (fun hg2 => ?n2)
  case' y2 =>
   obtain ⟨j, p, hp, hpe, hpa⟩ := atE_hit (E := E) (id := e.id) (by omega)
   have hkl := lt_len hp
   have ha0 : 0 ≤ atE E e.id := by omega
   have hpX := hok p (List.mem_of_getElem? hp)
   first | refine x_ix (by first | exact mapAt hp | exact at_ix hp hpa) ?_ | refine x_ixI (by first | exact mapAt hp | exact at_ix hp hpa) ?_
   refine x_call T.en_14 (refSame_any p e hpX) ?_
   refine br (fun hc3 => ?y3) (fun hc3 => ?n3)
   case' y3 =>
    have hpu := put_e7 hb hpe hc3
   case' n3 =>
    have hpn := hc3
    refine br (fun hc4 => ?y4) (fun hc4 => ?n4)
    case' y4 =>
     have hpu : putE E e = (E, 15) := by first | exact put_e15 hb hpe (by simpa using hpn) | (exfalso; omega)
    case' n4 =>
     have hmi := atE_miss (E := E) (id := e.id) (by omega)
     refine x_len ?_
     refine br (fun hc5 => ?y5) (fun hc5 => ?n5)
     case' y5 =>
      have hpu := put_e9 hb hmi (by omega)
     case' n5 =>
      have hpu := put_e0 hb hmi (by omega)
      first | refine x_app ?_ (by first | exact eDs_wide _ | exact eD_wide | exact tDs_wide _ | exact tD_wide | (simp [D.cells])) (hz := by first | exact snoc_map | exact one_map | exact List.map_take.symm | exact slice_drop | exact rfl | rfl) | refine x_appN ?_ (by first | exact eDs_wide _ | exact eD_wide | exact tDs_wide _ | exact tD_wide | (simp [D.cells]))
      first | refine x_app ?_ (by first | exact eDs_wide _ | exact eD_wide | exact tDs_wide _ | exact tD_wide | (simp [D.cells])) (hz := by first | exact snoc_map | exact one_map | exact List.map_take.symm | exact slice_drop | exact rfl | rfl) | refine x_appN ?_ (by first | exact eDs_wide _ | exact eD_wide | exact tDs_wide _ | exact tD_wide | (simp [D.cells]))
  case' n2 =>
   have hmi := atE_miss (E := E) (id := e.id) (by omega)
   refine brF ?_
   refine br (fun hc7 => ?y7) (fun hc7 => ?n7)
   case' y7 =>
    have hpu : putE E e = (E, 15) := by first | exact put_e15 hb hpe (by simpa using hpn) | (exfalso; omega)
   case' n7 =>
    have hmi := atE_miss (E := E) (id := e.id) (by omega)
    refine x_len ?_
    refine br (fun hc8 => ?y8) (fun hc8 => ?n8)
    case' y8 =>
     have hpu := put_e9 hb hmi (by omega)
    case' n8 =>
     have hpu := put_e0 hb hmi (by omega)
     first | refine x_app ?_ (by first | exact eDs_wide _ | exact eD_wide | exact tDs_wide _ | exact tD_wide | (simp [D.cells])) (hz := by first | exact snoc_map | exact one_map | exact List.map_take.symm | exact slice_drop | exact rfl | rfl) | refine x_appN ?_ (by first | exact eDs_wide _ | exact eD_wide | exact tDs_wide _ | exact tD_wide | (simp [D.cells]))
     first | refine x_app ?_ (by first | exact eDs_wide _ | exact eD_wide | exact tDs_wide _ | exact tD_wide | (simp [D.cells])) (hz := by first | exact snoc_map | exact one_map | exact List.map_take.symm | exact slice_drop | exact rfl | rfl) | refine x_appN ?_ (by first | exact eDs_wide _ | exact eD_wide | exact tDs_wide _ | exact tD_wide | (simp [D.cells]))
 all_goals (refine x_ret ?_; simp only [fitsL, fits, C.asD, and_true] <;> (rw [hpu]; exact ⟨first_rfl, rfl⟩))
end Go.Vm
end
section
namespace Go.Vm
open Go.RowKit Go.Proofs
set_option maxRecDepth 10000
theorem tags_any (t m : Nat) (ht : NAM ≤ t) (hm : NAM ≤ m) (htm : ¬ t = m) (l : List (TagD × NodeD)) (hl : l.length ≤ 1000) (f : FuncId) (p : NodeD → Bool) (hf : enters Tryz.prog f = true) (hp : ∀ n, Contract Tryz.prog f [nD n] [.d (.sc (.bool (p n)))]) : ContractH Tryz.prog 85 [.ptr t 0, .fn f []] [(t, .obj [.mp m]), (m, .mapo (ents l))] [.d (.row ((tagsOf p l).map tD))] [(t, .obj [.mp m]), (m, .mapo (ents l))] := by
 refine T.fnH [12, 15, 20, 2024, 2026, 2027] Tryz.func85 ?_ (by simp only [List.forall_mem_cons, List.not_mem_nil, false_implies, implies_true, and_true]; exact ⟨ht, hm⟩) (by simp [thing]) (by simp [thing])
 have hmt : ¬ m = t := fun e => htm e.symm
 refine x_obj ht (by first | rfl | (simp only [hOf, hset, hpost, htm, hmt, if_true, if_false, not_false_eq_true]; first | done | rfl)) ?_
 refine x_range ?_ ⟨hm, (by first | rfl | (simp only [hOf, hset, hpost, htm, hmt, if_true, if_false, not_false_eq_true]; first | done | rfl))⟩ Tryz.underlying126 (ents_len _)
 refine xnilG 5 500005 2 rfl (by decide) (by decide) (by decide) (by decide) ?_
 refine xloopR (fb := [12, 15, 20, 2024, 2026, 2027]) T.ok (Nat.le_of_ble_eq_true rfl) [1] (fun (s : List Nat × List TagD) => [(12, .iter m l.length s.1), (5, .sref 500005 2 s.2.length), (500005, .gbox 2 (s.2.map tD))]) (fun s => Seen l.length s.1 ∧ s.2 = pick p (·.1) l s.1) (fun s => unseen l.length s.1) ([], []) ⟨⟨List.nodup_nil, by simp⟩, rfl⟩ (x_ent (by first | rfl | (simp only [Tr.get]; simp; done)) (x_ent (by first | rfl | (simp only [Tr.get]; simp; done)) (x_ent (by first | rfl | (simp only [Tr.get]; simp; done)) trivial))) ?_
 rintro s ⟨hse, hA⟩
 have hAl : s.2.length ≤ 1000 := by rw [hA]; exact Nat.le_trans (pick_len hse) hl
 refine Exists.intro _ (And.intro ⟨hm, (by first | rfl | (simp only [hOf, hset, hpost, htm, hmt, if_true, if_false, not_false_eq_true]; first | done | rfl)), ents_len _⟩ (And.intro (fun hd1 => ?d1) (fun iq pq hpq hiq => ?g1)))
 case' d1 =>
  have hall := hd1
  refine brF ?_
  refine x_turnG (n := s.2.length) (id := 500005) T.en_128 (tags_sort s.2 (by omega)) rfl rfl rfl (by simp) (by simp [sortT_len]) (tDs_wide _) ?_
  refine x_freezeG (n := s.2.length) (id := 500005) (sz := 2) (xs := (sortT s.2).map tD) rfl rfl (by simp [sortT_len]) ?_
 case' g1 =>
  obtain ⟨q, hqi, rfl⟩ := ents_at hpq
  have hlt1 := (List.getElem?_eq_some_iff.1 hqi).1
  refine brT ?_
  refine x_entry ?_ ⟨hm, (by first | rfl | (simp only [hOf, hset, hpost, htm, hmt, if_true, if_false, not_false_eq_true]; first | done | rfl))⟩ (ents_len _) hpq
  refine x_callF hf (hp _) ?_
  refine br (fun hc4 => ?y4) (fun hc4 => ?n4)
  case' y4 =>
   have hpy : p q.2 = true := hc4
   refine x_appG (id := 500005) (n := s.2.length) (xs := s.2.map tD) (ys := [tD q.1]) (zs := (s.2 ++ [q.1]).map tD) (m := (s.2 ++ [q.1]).length) (T.ok 85 _ rfl).2.1 rfl rfl rfl (by simp) tD_wide (by simp only [List.length_cons, List.length_nil, maxLen]; omega) (by simp only [List.length_cons, List.length_nil]; omega) (by simp) (by simp) ?_
   refine x_rnd (s.1 ++ [iq], (s.2 ++ [q.1])) ⟨hse.next hlt1 hiq, by rw [pick_yes hqi hpy, hA]⟩ (by (try dsimp only); exact unseen_next hlt1 hiq) rfl (x_ent (by first | rfl | (simp only [Tr.get]; simp; done)) (x_ent (by first | rfl | (simp only [Tr.get]; simp; done)) (x_ent (by first | rfl | (simp only [Tr.get]; simp; done)) trivial))) rfl
  case' n4 =>
   have hpn : ¬ p q.2 = true := by simpa using hc4
   refine x_rnd (s.1 ++ [iq], s.2) ⟨hse.next hlt1 hiq, by rw [pick_no hqi hpn, hA]⟩ (by (try dsimp only); exact unseen_next hlt1 hiq) rfl (x_ent (by first | rfl | (simp only [Tr.get]; simp; done)) (x_ent (by first | rfl | (simp only [Tr.get]; simp; done)) (x_ent (by first | rfl | (simp only [Tr.get]; simp; done)) trivial))) rfl
 all_goals (refine ⟨?_, ⟨⟨ht, (by first | rfl | (simp only [hOf, hset, hpost, htm, hmt, if_true, if_false, not_false_eq_true]; first | done | rfl))⟩, ⟨hm, (by first | rfl | (simp only [hOf, hset, hpost, htm, hmt, if_true, if_false, not_false_eq_true]; first | done | rfl))⟩, trivial⟩⟩; simp only [fitsL, fits, C.asD, and_true] <;> (refine row_inj ?_; rw [hA, tags_pick hse hall]))
end Go.Vm
end
section
namespace Go.Vm
open Go.RowKit Go.Proofs
set_option maxRecDepth 10000
theorem settle_any (t m : Nat) (ht : NAM ≤ t) (hm : NAM ≤ m) (htm : ¬ t = m) (E : List EdgeD) (l : List (TagD × NodeD)) (hE : E.length ≤ 1000) (hg : Good E) (hl : Half E l) : ContractH Tryz.prog 127 [.ptr t 0] [(t, .obj [.mp m]), (m, .mapo (ents l))] [] [(t, .obj [.mp m]), (m, .mapo (ents (nodesOf E)))] := by
 refine T.fnH [11, 14, 24] Tryz.func127 ?_ (by simp only [List.forall_mem_cons, List.not_mem_nil, false_implies, implies_true, and_true]; exact ⟨ht, hm⟩) (by simp [thing]) (by simp [thing])
 have hmt : ¬ m = t := fun e => htm e.symm
 refine xscope (fb := [11, 14, 24]) T.ok (Nat.le_of_ble_eq_true rfl) [0] (fun (l2 : List (TagD × NodeD)) => 0) (fun _ => [0]) (fun (l2 : List (TagD × NodeD)) => []) (fun (l2 : List (TagD × NodeD)) => (hset (hOf [(t, .obj [.mp m]), (m, .mapo (ents l))]) m (.mapo (ents l2)))) (fun (l2 : List (TagD × NodeD)) => Half E l2) (fun (l2 : List (TagD × NodeD)) => pends l2) (fun z _ => by rfl) (by repeat (first | exact trivial | refine And.intro (fun _ => rfl) ?_)) (fun z _ => by (repeat (first | exact trivial | refine And.intro (fun _ => rfl) ?_))) ?p1 ?f1
 case' p1 =>
  rintro l2 hl2
  refine x_obj ht (by first | rfl | (simp only [hOf, hset, hpost, htm, hmt, if_true, if_false, not_false_eq_true]; first | done | rfl)) ?_
  refine x_range ?_ ⟨hm, (by first | rfl | (simp only [hOf, hset, hpost, htm, hmt, if_true, if_false, not_false_eq_true]; first | done | rfl))⟩ Tryz.underlying126 (ents_len _)
  refine xloopR (fb := [11, 14, 24]) T.ok (Nat.le_of_ble_eq_true rfl) [0] (fun (seen : List Nat) => [(11, .iter m l2.length seen)]) (fun seen => ∀ j ∈ seen, quiet l2 j) (fun seen => unseen l2.length seen) [] (by simp) (x_ent (by first | rfl | (simp only [Tr.get]; simp; done)) trivial) ?_
  rintro seen hq
  refine Exists.intro _ (And.intro ⟨hm, (by first | rfl | (simp only [hOf, hset, hpost, htm, hmt, if_true, if_false, not_false_eq_true]; first | done | rfl)), ents_len _⟩ (And.intro (fun hd1 => ?d1) (fun iq pq hpq hiq => ?g1)))
  case' d1 =>
   have hfin := hl2.over hg (fun j hj => hq j (hd1 j hj))
   refine brF ?_
  case' g1 =>
   obtain ⟨q, hqi, rfl⟩ := ents_at hpq
   have hm1 := List.mem_of_getElem? hqi
   have hlt1 := (List.getElem?_eq_some_iff.1 hqi).1
   refine brT ?_
   refine x_entry ?_ ⟨hm, (by first | rfl | (simp only [hOf, hset, hpost, htm, hmt, if_true, if_false, not_false_eq_true]; first | done | rfl))⟩ (ents_len _) hpq
   refine br (fun hc4 => ?y4) (fun hc4 => ?n4)
   case' y4 =>
    have hqt : quiet l2 iq := fun p hp => by rw [hqi] at hp; injection hp with hp; subst hp; exact .inl hc4
    refine x_rnd (seen ++ [iq]) (by intro j hj; rcases List.mem_append.1 hj with hj | hj; exact hq j hj; rw [List.mem_singleton.1 hj]; exact hqt) (by (try dsimp only); exact unseen_next hlt1 hiq) rfl (x_ent (by first | rfl | (simp only [Tr.get]; simp; done)) trivial) rfl
   case' n4 =>
    have hst := hc4
    obtain ⟨hpe, hpk, hpm⟩ := hl2.pend hg hm1 hst
    refine x_callR T.en_149 (at_any t m ht hm htm l2 q.2.edge.parent) ?_ ⟨⟨ht, (by first | rfl | (simp only [hOf, hset, hpost, htm, hmt, if_true, if_false, not_false_eq_true]; first | done | rfl))⟩, ⟨hm, (by first | rfl | (simp only [hOf, hset, hpost, htm, hmt, if_true, if_false, not_false_eq_true]; first | done | rfl))⟩, trivial⟩
    refine br (fun hg5 => ?y5) (fun hg5 => ?n5)
    case' y5 =>
     refine br (fun hc6 => ?y6) (fun hc6 => ?n6)
     case' y6 =>
      have hqt : quiet l2 iq := fun p hp => by rw [hqi] at hp; injection hp with hp; subst hp; exact .inr (by omega)
      refine x_rnd (seen ++ [iq]) (by intro j hj; rcases List.mem_append.1 hj with hj | hj; exact hq j hj; rw [List.mem_singleton.1 hj]; exact hqt) (by (try dsimp only); exact unseen_next hlt1 hiq) rfl (x_ent (by first | rfl | (simp only [Tr.get]; simp; done)) trivial) rfl
     case' n6 =>
      refine br (fun hc7 => ?y7) (fun hc7 => ?n7)
      case' y7 =>
       exfalso; omega
      case' n7 =>
       have hv := hl2.dead hg hpm hpe (by omega)
       refine And.intro ⟨T.mixed, by decide +kernel⟩ ?_
       have hput := hl2.put hg hqi
       have hns : ¬ (nodeOf E q.2.edge).state = 1 := by rw [hv]; simp
       refine x_obj ht (by first | rfl | (simp only [hOf, hset, hpost, htm, hmt, if_true, if_false, not_false_eq_true]; first | done | rfl)) ?_
       refine x_put (es' := ents (putT q.1 (nodeOf E q.2.edge) l2)) ?_ ⟨hm, (by first | rfl | (simp only [hOf, hset, hpost, htm, hmt, if_true, if_false, not_false_eq_true]; first | done | rfl))⟩ tagKey ⟨_, rfl⟩ (ents_keys _) Tryz.underlying126 (by rw [hv]; exact ents_put l2 q.1 _)
       refine x_jmp (putT q.1 (nodeOf E q.2.edge) l2) hput.2 rfl (by (try dsimp only [jlt, Sum.elim_inl, Sum.elim_inr]); rw [hput.1]; exact pends_put hqi hst hns) rfl trivial (by first | rfl | exact (hset_hset _ _ _ _).symm | exact hset_self (by first | rfl | (simp only [hOf, hset, hpost, htm, hmt, if_true, if_false, not_false_eq_true]; first | done | rfl)))
    case' n5 =>
     refine brF ?_
     refine br (fun hc9 => ?y9) (fun hc9 => ?n9)
     case' y9 =>
      have hat := hl2.at (id := q.2.edge.parent) (.inl hc9)
      have hup := hc9
      have hoX := hg.ok _ hpm
      have hoS : okL (atT l2 q.2.edge.parent).schema := by rw [hat.2.1]; exact okL_comes hg.ok _ _
      have hdp : 0 ≤ (atT l2 q.2.edge.parent).depth ∧ (atT l2 q.2.edge.parent).depth ≤ ((E.length + 1 : Nat) : Int) := by rw [hat.2.2]; exact depth_le _ _
      refine x_call T.en_150 (apply_any _ _ hoS hoX) ?_
      refine br (fun hc10 => ?y10) (fun hc10 => ?n10)
      case' y10 =>
       have hv := hl2.live hg hpm hup hc10
       refine And.intro ⟨T.mixed, by decide +kernel⟩ ?_
       first | refine x_inc ?_ | refine x_add ?_ | refine x_bin rfl rfl ?_
       refine And.intro ⟨T.mixed, by decide +kernel⟩ ?_
       have hput := hl2.put hg hqi
       have hns : ¬ (nodeOf E q.2.edge).state = 1 := by rw [hv]; simp
       refine x_obj ht (by first | rfl | (simp only [hOf, hset, hpost, htm, hmt, if_true, if_false, not_false_eq_true]; first | done | rfl)) ?_
       refine x_put (es' := ents (putT q.1 (nodeOf E q.2.edge) l2)) ?_ ⟨hm, (by first | rfl | (simp only [hOf, hset, hpost, htm, hmt, if_true, if_false, not_false_eq_true]; first | done | rfl))⟩ tagKey ⟨_, rfl⟩ (ents_keys _) Tryz.underlying126 (by rw [hv]; exact ents_put l2 q.1 _)
       refine x_jmp (putT q.1 (nodeOf E q.2.edge) l2) hput.2 rfl (by (try dsimp only [jlt, Sum.elim_inl, Sum.elim_inr]); rw [hput.1]; exact pends_put hqi hst hns) rfl trivial (by first | rfl | exact (hset_hset _ _ _ _).symm | exact hset_self (by first | rfl | (simp only [hOf, hset, hpost, htm, hmt, if_true, if_false, not_false_eq_true]; first | done | rfl)))
      case' n10 =>
       have hv := hl2.unfit hg hpm hpe hup hc10
       refine And.intro ⟨T.mixed, by decide +kernel⟩ ?_
       have hput := hl2.put hg hqi
       have hns : ¬ (nodeOf E q.2.edge).state = 1 := by rw [hv]; simp
       refine x_obj ht (by first | rfl | (simp only [hOf, hset, hpost, htm, hmt, if_true, if_false, not_false_eq_true]; first | done | rfl)) ?_
       refine x_put (es' := ents (putT q.1 (nodeOf E q.2.edge) l2)) ?_ ⟨hm, (by first | rfl | (simp only [hOf, hset, hpost, htm, hmt, if_true, if_false, not_false_eq_true]; first | done | rfl))⟩ tagKey ⟨_, rfl⟩ (ents_keys _) Tryz.underlying126 (by rw [hv]; exact ents_put l2 q.1 _)
       refine x_jmp (putT q.1 (nodeOf E q.2.edge) l2) hput.2 rfl (by (try dsimp only [jlt, Sum.elim_inl, Sum.elim_inr]); rw [hput.1]; exact pends_put hqi hst hns) rfl trivial (by first | rfl | exact (hset_hset _ _ _ _).symm | exact hset_self (by first | rfl | (simp only [hOf, hset, hpost, htm, hmt, if_true, if_false, not_false_eq_true]; first | done | rfl)))
     case' n9 =>
      exfalso; omega
 case' f1 =>
  skip
  refine x_jmp l hl rfl trivial rfl trivial (by first | rfl | exact (hset_hset _ _ _ _).symm | exact hset_self (by first | rfl | (simp only [hOf, hset, hpost, htm, hmt, if_true, if_false, not_false_eq_true]; first | done | rfl)))
 all_goals (refine ⟨?_, ⟨⟨ht, (by first | rfl | (simp only [hOf, hset, hpost, htm, hmt, if_true, if_false, not_false_eq_true]; first | done | rfl))⟩, ⟨hm, by rw [← hfin]; exact (by first | rfl | (simp only [hOf, hset, hpost, htm, hmt, if_true, if_false, not_false_eq_true]; first | done | rfl))⟩, trivial⟩⟩; simp only [fitsL, fits, C.asD, and_true] <;> (trivial))
end Go.Vm
end
section
namespace Go.Vm
open Go.RowKit Go.Proofs
set_option maxRecDepth 10000
theorem new_any (t m : Nat) (ht : NAM ≤ t) (hm : NAM ≤ m) (htm : ¬ t = m) : ContractH Tryz.prog 81 [] [(t, .free), (m, .free)] [.d (.ptr t 0)] [(t, .obj [.mp m]), (m, .mapo (ents (nodesOf [])))] := by
 refine T.fnH [1, 3] Tryz.func81 ?_ (by simp only [List.forall_mem_cons, List.not_mem_nil, false_implies, implies_true, and_true]; exact ⟨ht, hm⟩) (by simp [thing]) (by simp [thing])
 have hmt : ¬ m = t := fun e => htm e.symm
 refine x_mkmap m ?_ ⟨hm, (by first | rfl | (simp only [hOf, hset, hpost, htm, hmt, if_true, if_false, not_false_eq_true]; first | done | rfl))⟩
 refine x_newbox t ?_ ⟨ht, (by first | rfl | (simp only [hOf, hset, hpost, htm, hmt, if_true, if_false, not_false_eq_true]; first | done | rfl))⟩
 all_goals (refine ⟨?_, ⟨⟨ht, (by first | rfl | (simp only [hOf, hset, hpost, htm, hmt, if_true, if_false, not_false_eq_true]; first | done | rfl))⟩, ⟨hm, (by first | rfl | (simp only [hOf, hset, hpost, htm, hmt, if_true, if_false, not_false_eq_true]; first | done | rfl))⟩, trivial⟩⟩; simp only [fitsL, fits, C.asD, and_true] <;> (trivial))
theorem put_any (t m : Nat) (ht : NAM ≤ t) (hm : NAM ≤ m) (htm : ¬ t = m) (E : List EdgeD) (e : EdgeD) (hE : E.length ≤ 900) (hg : Good E) (he : okX e.lens) : ContractH Tryz.prog 83 [.ptr t 0, eD e] [(t, .obj [.mp m]), (m, .mapo (ents (nodesOf E)))] [.d (.sc (.int .i64 (putE E e).2))] [(t, .obj [.mp m]), (m, .mapo (ents (nodesOf (putE E e).1)))] := by
 refine T.fnH [19, 31, 52] Tryz.func83 ?_ (by simp only [List.forall_mem_cons, List.not_mem_nil, false_implies, implies_true, and_true]; exact ⟨ht, hm⟩) (by simp [thing]) (by simp [thing])
 have hmt : ¬ m = t := fun e => htm e.symm
 first | refine And.intro ⟨_, Tryz.underlying74⟩ ?_ | refine x_bin rfl rfl ?_
 refine brF ?_
 refine x_call T.en_47 (edge_any e he) ?_
 refine br (fun hc2 => ?y2) (fun hc2 => ?n2)
 case' y2 =>
  have hpu := put_e5 (E := E) hc2
 case' n2 =>
  have hb : edgeB e = true := hc2
  refine And.intro ⟨T.mixed, by decide +kernel⟩ ?_
  refine x_obj ht (by first | rfl | (simp only [hOf, hset, hpost, htm, hmt, if_true, if_false, not_false_eq_true]; first | done | rfl)) ?_
  refine q_look2 ?_ ⟨hm, (by first | rfl | (simp only [hOf, hset, hpost, htm, hmt, if_true, if_false, not_false_eq_true]; first | done | rfl))⟩ tagKey ⟨_, rfl⟩ (ents_keys _) Tryz.underlying126 zeroNode (look_node _ _) (look_found _ _)
  refine br (fun hc3 => ?y3) (fun hc3 => ?n3)
  case' y3 =>
   obtain ⟨f, hf, hnd, hfm⟩ := find_some hc3
   refine x_call T.en_126 (same_any ((findT e.id (nodesOf E)).getD noNode).edge e (by rw [hnd]; exact hg.ok _ hfm)) ?_
   refine br (fun hc4 => ?y4) (fun hc4 => ?n4)
   case' y4 =>
    have hpu := put_e7 hb hf (by rw [hnd] at hc4; exact hc4)
   case' n4 =>
    have hpu := put_e15 hb hf (by rw [hnd] at hc4; exact hc4)
  case' n3 =>
   obtain ⟨hf, hf2⟩ := find_miss hc3
   refine x_obj ht (by first | rfl | (simp only [hOf, hset, hpost, htm, hmt, if_true, if_false, not_false_eq_true]; first | done | rfl)) ?_
   refine x_lenm ?_ ⟨hm, (by first | rfl | (simp only [hOf, hset, hpost, htm, hmt, if_true, if_false, not_false_eq_true]; first | done | rfl))⟩ Tryz.underlying126 nodes_len
   refine br (fun hc5 => ?y5) (fun hc5 => ?n5)
   case' y5 =>
    have hpu := put_e9 hb hf (by omega)
   case' n5 =>
    have hpu := put_e0 hb hf (by omega)
    have hgm := hg.more he hb hf
    refine x_obj ht (by first | rfl | (simp only [hOf, hset, hpost, htm, hmt, if_true, if_false, not_false_eq_true]; first | done | rfl)) ?_
    first | refine And.intro ⟨_, _, Tryz.underlying126⟩ ?_ | refine x_bin rfl rfl ?_
    refine brF ?_
    refine And.intro ⟨T.mixed, by decide +kernel⟩ ?_
    refine x_obj ht (by first | rfl | (simp only [hOf, hset, hpost, htm, hmt, if_true, if_false, not_false_eq_true]; first | done | rfl)) ?_
    refine x_call T.en_87 (own_any e he) ?_
    refine x_put (es' := ents (nodesOf E ++ [(e.id, pend e)])) ?_ ⟨hm, (by first | rfl | (simp only [hOf, hset, hpost, htm, hmt, if_true, if_false, not_false_eq_true]; first | done | rfl))⟩ tagKey ⟨_, rfl⟩ (ents_keys _) Tryz.underlying126 (by rw [← putT_new hf2]; exact ents_put (nodesOf E) e.id (pend e))
    refine x_callH T.en_127 (settle_any t m ht hm htm (E ++ [e]) (nodesOf E ++ [(e.id, pend e)]) (by rw [List.length_append]; simp; omega) hgm (nodes_half hgm)) ?_ ⟨⟨ht, (by first | rfl | (simp only [hOf, hset, hpost, htm, hmt, if_true, if_false, not_false_eq_true]; first | done | rfl))⟩, ⟨hm, (by first | rfl | (simp only [hOf, hset, hpost, htm, hmt, if_true, if_false, not_false_eq_true]; first | done | rfl))⟩, trivial⟩
 all_goals (refine ⟨?_, ⟨⟨ht, (by first | rfl | (simp only [hOf, hset, hpost, htm, hmt, if_true, if_false, not_false_eq_true]; first | done | rfl))⟩, ⟨hm, by rw [hpu]; exact (by first | rfl | (simp only [hOf, hset, hpost, htm, hmt, if_true, if_false, not_false_eq_true]; first | done | rfl))⟩, trivial⟩⟩; simp only [fitsL, fits, C.asD, and_true] <;> (rw [hpu]))
end Go.Vm
end
section
namespace Go.Vm
open Go.RowKit Go.Proofs
set_option maxRecDepth 10000
theorem edges1_any (n : NodeD) : Contract Tryz.prog 86 [nD n] [.d (.sc (.bool (true)))] := by
 refine T.fn [] Tryz.func86 ?_
 all_goals (refine x_ret ?_; simp only [fitsL, fits, C.asD, and_true] <;> (rfl))
theorem live1_any (n : NodeD) : Contract Tryz.prog 88 [nD n] [.d (.sc (.bool (decide (n.state = 2))))] := by
 refine T.fn [] Tryz.func88 ?_
 all_goals (refine x_ret ?_; simp only [fitsL, fits, C.asD, and_true] <;> (rfl))
theorem edges_any (t m : Nat) (ht : NAM ≤ t) (hm : NAM ≤ m) (htm : ¬ t = m) (l : List (TagD × NodeD)) (hl : l.length ≤ 1000) (hx : ∀ k, okX ((findT k l).getD noNode).edge.lens) : ContractH Tryz.prog 42 [.ptr t 0] [(t, .obj [.mp m]), (m, .mapo (ents l))] [.d (.row ((edgesOf l).map eD))] [(t, .obj [.mp m]), (m, .mapo (ents l))] := by
 refine T.fnH [9, 21, 1025] Tryz.func42 ?_ (by simp only [List.forall_mem_cons, List.not_mem_nil, false_implies, implies_true, and_true]; exact ⟨ht, hm⟩) (by simp [thing]) (by simp [thing])
 have hmt : ¬ m = t := fun e => htm e.symm
 first | refine And.intro ⟨_, Tryz.underlying74⟩ ?_ | refine x_bin rfl rfl ?_
 refine brF ?_
 refine x_callR T.en_85 (tags_any t m ht hm htm l hl 86 (fun _ => true) (by kernel_rfl) edges1_any) ?_ ⟨⟨ht, (by first | rfl | (simp only [hOf, hset, hpost, htm, hmt, if_true, if_false, not_false_eq_true]; first | done | rfl))⟩, ⟨hm, (by first | rfl | (simp only [hOf, hset, hpost, htm, hmt, if_true, if_false, not_false_eq_true]; first | done | rfl))⟩, trivial⟩
 refine x_len ?_
 refine xnil 3 500003 33 rfl (by decide) (by decide +kernel) ?_
 refine xloopR (fb := [9, 21, 1025]) T.ok (Nat.le_of_ble_eq_true rfl) [0, 9, 10] (fun (s : Nat × List EdgeD) => [(11, .c (.d (.sc (.int .i64 ((s.1 : Nat) : Int))))), (3, .c (.own 500003 33 (s.2.map eD)))]) (fun s => s.1 ≤ (tagsOf (fun _ => true) l).length ∧ s.2 = ((tagsOf (fun _ => true) l).take s.1).map fun k => ((findT k l).getD noNode).edge) (fun s => (tagsOf (fun _ => true) l).length - s.1) (0, []) ⟨Nat.zero_le _, rfl⟩ (x_ent (by first | rfl | (simp only [Tr.get]; simp; done)) (x_ent (by first | rfl | (simp only [Tr.get]; simp; done)) trivial)) ?_
 rintro s ⟨hk, hA⟩
 have hil : (tagsOf (fun _ => true) l).length ≤ 1000 := Nat.le_trans tagsOf_len hl
 have hAl : s.2.length ≤ 1000 := by rw [hA, List.length_map, List.length_take]; omega
 refine br (fun hc2 => ?y2) (fun hc2 => ?n2)
 case' y2 =>
  obtain ⟨p, hp⟩ := elem_at hc2
  have hkl := lt_len hp
  have hoX := hx p
  first | refine x_ix (by exact mapAt hp) ?_ | refine x_ixI (by exact mapAt hp) ?_
  refine And.intro ⟨T.mixed, by decide +kernel⟩ ?_
  refine x_obj ht (by first | rfl | (simp only [hOf, hset, hpost, htm, hmt, if_true, if_false, not_false_eq_true]; first | done | rfl)) ?_
  refine q_look ?_ ⟨hm, (by first | rfl | (simp only [hOf, hset, hpost, htm, hmt, if_true, if_false, not_false_eq_true]; first | done | rfl))⟩ tagKey ⟨_, rfl⟩ (ents_keys _) Tryz.underlying126 zeroNode (look_node _ _)
  refine x_field Tryz.underlying123 rfl (T.k_33).1 ?_
  refine x_call T.en_87 (own_any _ hoX) ?_
  first | refine x_app ?_ (by first | exact eDs_wide _ | exact eD_wide | exact tDs_wide _ | exact tD_wide | (simp [D.cells])) (hz := by first | exact snoc_map | exact one_map | exact List.map_take.symm | exact slice_drop | exact rfl | rfl) | refine x_appN ?_ (by first | exact eDs_wide _ | exact eD_wide | exact tDs_wide _ | exact tD_wide | (simp [D.cells]))
  first | refine x_inc ?_ | refine x_add ?_ | refine x_bin rfl rfl ?_
  refine x_rnd (s.1 + 1, s.2 ++ [((findT p l).getD noNode).edge]) ⟨lt_len hp, by rw [take_next hp, hA]; simp⟩ (by (try dsimp only); have := lt_len hp; (try dsimp only); omega) rfl (x_ent (by first | rfl | (simp only [Tr.get]; simp; done)) (x_ent (by first | rfl | (simp only [Tr.get]; simp; done)) trivial)) rfl
 all_goals (refine ⟨?_, ⟨⟨ht, (by first | rfl | (simp only [hOf, hset, hpost, htm, hmt, if_true, if_false, not_false_eq_true]; first | done | rfl))⟩, ⟨hm, (by first | rfl | (simp only [hOf, hset, hpost, htm, hmt, if_true, if_false, not_false_eq_true]; first | done | rfl))⟩, trivial⟩⟩; simp only [fitsL, fits, C.asD, and_true] <;> (refine row_inj ?_; rw [hA, List.take_of_length_le (past_end (by assumption))]; rfl))
theorem live_any (t m : Nat) (ht : NAM ≤ t) (hm : NAM ≤ m) (htm : ¬ t = m) (l : List (TagD × NodeD)) (hl : l.length ≤ 1000) : ContractH Tryz.prog 44 [.ptr t 0] [(t, .obj [.mp m]), (m, .mapo (ents l))] [.d (.row ((noTag :: tagsOf (fun n => decide (n.state = 2)) l).map tD))] [(t, .obj [.mp m]), (m, .mapo (ents l))] := by
 refine T.fnH [7] Tryz.func44 ?_ (by simp only [List.forall_mem_cons, List.not_mem_nil, false_implies, implies_true, and_true]; exact ⟨ht, hm⟩) (by simp [thing]) (by simp [thing])
 have hmt : ¬ m = t := fun e => htm e.symm
 have hil : (tagsOf (fun n => decide (n.state = 2)) l).length ≤ 1000 := Nat.le_trans tagsOf_len hl
 first | refine And.intro ⟨_, Tryz.underlying74⟩ ?_ | refine x_bin rfl rfl ?_
 refine brF ?_
 refine x_callR T.en_85 (tags_any t m ht hm htm l hl 88 (fun n => decide (n.state = 2)) (by kernel_rfl) live1_any) ?_ ⟨⟨ht, (by first | rfl | (simp only [hOf, hset, hpost, htm, hmt, if_true, if_false, not_false_eq_true]; first | done | rfl))⟩, ⟨hm, (by first | rfl | (simp only [hOf, hset, hpost, htm, hmt, if_true, if_false, not_false_eq_true]; first | done | rfl))⟩, trivial⟩
 refine x_call T.en_89 (root_any) ?_
 first | refine x_app ?_ (by first | exact eDs_wide _ | exact eD_wide | exact tDs_wide _ | exact tD_wide | (simp [D.cells])) (hz := by first | exact snoc_map | exact one_map | exact List.map_take.symm | exact slice_drop | exact rfl | rfl) | refine x_appN ?_ (by first | exact eDs_wide _ | exact eD_wide | exact tDs_wide _ | exact tD_wide | (simp [D.cells]))
 all_goals (refine ⟨?_, ⟨⟨ht, (by first | rfl | (simp only [hOf, hset, hpost, htm, hmt, if_true, if_false, not_false_eq_true]; first | done | rfl))⟩, ⟨hm, (by first | rfl | (simp only [hOf, hset, hpost, htm, hmt, if_true, if_false, not_false_eq_true]; first | done | rfl))⟩, trivial⟩⟩; simp only [fitsL, fits, C.asD, and_true] <;> (rfl))
end Go.Vm
end
section
namespace Go.Vm
open Go.RowKit Go.Proofs
set_option maxRecDepth 10000
theorem find_perm {β : Type} {k : TagD} {l l' : List (TagD × β)} (hp : l.Perm l') : l.Pairwise (fun a b => ¬ a.1 = b.1) → findT k l = findT k l' := by
  induction hp with
  | nil => intro _; rfl
  | cons x _ ih =>
    intro h
    simp only [findT]
    rw [ih (List.pairwise_cons.1 h).2]
  | swap x y l =>
    intro h
    simp only [findT]
    have h1 := (List.pairwise_cons.1 h).1 x (List.mem_cons_self ..)
    by_cases e1 : k = y.1
    · rw [if_pos e1, if_neg (fun e2 => h1 (e1.symm.trans e2)), if_pos e1]
    · rw [if_neg e1, if_neg e1]
  | trans h1 _ ih1 ih2 =>
    intro h
    exact (ih1 h).trans (ih2 ((h1.pairwise_iff (R := fun a b : TagD × β => ¬ a.1 = b.1) (fun h e => h e.symm)).1 h))
theorem nodes_uniq {E : List EdgeD} (hg : Good E) : (nodesOf E).Pairwise fun a b => ¬ a.1 = b.1 := by
  unfold nodesOf
  exact List.pairwise_map.2 hg.uniq
theorem perm_uniq {E : List EdgeD} {l : List (TagD × NodeD)} (hg : Good E) (hl : l.Perm (nodesOf E)) : l.Pairwise fun a b => ¬ a.1 = b.1 := (hl.pairwise_iff (R := fun a b : TagD × NodeD => ¬ a.1 = b.1) (fun h e => h e.symm)).2 (nodes_uniq hg)
theorem perm_find {E : List EdgeD} {l : List (TagD × NodeD)} (hg : Good E) (hl : l.Perm (nodesOf E)) (k : TagD) : findT k l = (edgeOf E k).map (nodeOf E) := by
  rw [find_perm hl (perm_uniq hg hl), find_nodes]
theorem perm_len {E : List EdgeD} {l : List (TagD × NodeD)} (hl : l.Perm (nodesOf E)) : l.length = E.length := by rw [hl.length_eq]; simp [nodesOf]
theorem okX_none : okX noEdge.lens := ⟨by decide, by decide, by decide⟩
theorem perm_okX {E : List EdgeD} {l : List (TagD × NodeD)} (hg : Good E) (hl : l.Perm (nodesOf E)) (k : TagD) : okX ((findT k l).getD noNode).edge.lens := by
  rw [perm_find hg hl]
  cases h : edgeOf E k with
  | none => exact okX_none
  | some e => exact hg.ok e (edge_mem h).1
theorem perm_edges {E : List EdgeD} {l : List (TagD × NodeD)} (hg : Good E) (hl : l.Perm (nodesOf E)) : edgesOf l = sortE E := by
  rw [← edgesOf_nodes hg.uniq]
  unfold edgesOf
  rw [tagsOf_perm hl]
  refine List.map_congr_left fun k _ => ?_
  rw [find_perm hl (perm_uniq hg hl)]
theorem perm_live {E : List EdgeD} {l : List (TagD × NodeD)} (hl : l.Perm (nodesOf E)) : noTag :: tagsOf (fun n => decide (n.state = 2)) l = liveE E := by
  rw [tagsOf_perm hl, liveOf_nodes]; rfl
theorem edgesL (t m : Nat) (ht : NAM ≤ t) (hm : NAM ≤ m) (htm : ¬ t = m) (E : List EdgeD) (hg : Good E) (hE : E.length ≤ 1000) (l : List (TagD × NodeD)) (hl : l.Perm (nodesOf E)) : ContractH Tryz.prog 42 [.ptr t 0] [(t, .obj [.mp m]), (m, .mapo (ents l))] [.d (.row ((sortE E).map eD))] [(t, .obj [.mp m]), (m, .mapo (ents l))] := by
  have h := edges_any t m ht hm htm l (by rw [perm_len hl]; exact hE) (perm_okX hg hl)
  rwa [perm_edges hg hl] at h
theorem liveL (t m : Nat) (ht : NAM ≤ t) (hm : NAM ≤ m) (htm : ¬ t = m) (E : List EdgeD) (hg : Good E) (hE : E.length ≤ 1000) (l : List (TagD × NodeD)) (hl : l.Perm (nodesOf E)) : ContractH Tryz.prog 44 [.ptr t 0] [(t, .obj [.mp m]), (m, .mapo (ents l))] [.d (.row ((liveE E).map tD))] [(t, .obj [.mp m]), (m, .mapo (ents l))] := by
  have h := live_any t m ht hm htm l (by rw [perm_len hl]; exact hE)
  rwa [perm_live hl] at h
end Go.Vm
end
section
namespace Go.Vm
open Go.RowKit Go.Proofs
set_option maxRecDepth 10000
theorem grown_next {h : Hp} {t m : Nat} {a b x y : S} (htm : ¬ t = m) : hset (hpost h [(t, a), (m, b)]) m y = hpost (hset (hpost h [(t, a), (m, b)]) m x) [(t, a), (m, y)] := by
  funext u
  simp only [hpost, hset]
  by_cases h1 : u = m
  · subst h1; have : ¬ u = t := fun e => htm e.symm; simp [this]
  · by_cases h2 : u = t
    · subst h2; simp [h1]
    · simp [h1, h2]
theorem grown_first {h : Hp} {t m : Nat} {a b : S} (htm : ¬ t = m) : hset (hpost h [(t, a), (m, b)]) m b = hpost h [(t, a), (m, b)] := by
  refine hset_self ?_
  simp only [hpost, hset]
  have : ¬ m = t := fun e => htm e.symm
  simp [this]
theorem grown_any (t m : Nat) (ht : NAM ≤ t) (hm : NAM ≤ m) (htm : ¬ t = m) (l : List EdgeD) (hl : l.length ≤ 1000) (hok : ∀ e ∈ l, okX e.lens) : ContractH Tryz.prog 36 [.row (l.map eD)] [(t, .free), (m, .free)] [.d (.ptr t 0), .d (.row ((growE l).map eD)), .d (.sc (.bool (true)))] [(t, .obj [.mp m]), (m, .mapo (ents (nodesOf (growE l))))] := by
 refine T.fnH [6, 10, 32] Tryz.func36 ?_ (by simp only [List.forall_mem_cons, List.not_mem_nil, false_implies, implies_true, and_true]; exact ⟨ht, hm⟩) (by simp [thing]) (by simp [thing])
 have hmt : ¬ m = t := fun e => htm e.symm
 refine x_callH T.en_81 (new_any t m ht hm htm) ?_ ⟨⟨ht, (by first | rfl | (simp only [hOf, hset, hpost, htm, hmt, if_true, if_false, not_false_eq_true]; first | done | rfl))⟩, ⟨hm, (by first | rfl | (simp only [hOf, hset, hpost, htm, hmt, if_true, if_false, not_false_eq_true]; first | done | rfl))⟩, trivial⟩
 refine x_frz ?_
 refine xloop (fb := [6, 10, 32]) T.ok (Nat.le_of_ble_eq_true rfl) [0, 5] (fun (k : Nat) => [(7, .c (.d (.sc (.int .i64 (k : Nat))))), (6, .c (.d (.row ((growE (l.take k)).map eD))))]) (fun k => (hset (hpost (hOf [(t, .free), (m, .free)]) [(t, .obj [.mp m]), (m, .mapo (ents (nodesOf [])))]) m (.mapo (ents (nodesOf (growE (l.take k))))))) (fun k => k ≤ l.length) (fun k => l.length - k) 0 (Nat.zero_le _) (x_ent (by first | rfl | (simp only [Tr.get]; simp; done)) (x_ent (by first | rfl | (simp only [Tr.get]; simp; done)) trivial)) (by first | rfl | exact grown_first htm) ?_
 rintro k hk
 have hgg := grow_good (l := l.take k) (fun e he => hok e (List.mem_of_mem_take he))
 have hg := hgg.1
 have hE := hgg.2
 refine x_len ?_
 refine br (fun hc1 => ?y1) (fun hc1 => ?n1)
 case' y1 =>
  obtain ⟨p, hp⟩ := elem_at hc1
  have hkl := lt_len hp
  have hoX := hok p (List.mem_of_getElem? hp)
  first | refine x_ix (by exact mapAt hp) ?_ | refine x_ixI (by exact mapAt hp) ?_
  refine x_call T.en_82 (refTreePut_any (growE (l.take k)) p (by omega) hg.ok hoX) ?_
  first | refine x_ix (by exact mapAt hp) ?_ | refine x_ixI (by exact mapAt hp) ?_
  refine x_callH T.en_83 (put_any t m ht hm htm (growE (l.take k)) p (by omega) hg hoX) ?_ ⟨⟨ht, (by first | rfl | (simp only [hOf, hset, hpost, htm, hmt, if_true, if_false, not_false_eq_true]; first | done | rfl))⟩, ⟨hm, (by first | rfl | (simp only [hOf, hset, hpost, htm, hmt, if_true, if_false, not_false_eq_true]; first | done | rfl))⟩, trivial⟩
  refine br (fun hc2 => ?y2) (fun hc2 => ?n2)
  case' y2 =>
   exact absurd rfl hc2
  case' n2 =>
   refine x_frz ?_
   first | refine x_inc ?_ | refine x_add ?_ | refine x_bin rfl rfl ?_
   refine x_rnd (k + 1) (lt_len hp) (by (try dsimp only); have := lt_len hp; omega) rfl (x_ent (by first | rfl | (simp only [Tr.get]; simp; done)) (x_ent (by simp only [Tr.get]; rw [growE_take hp]) trivial)) (by rw [growE_take hp]; exact grown_next htm)
 case' n1 =>
  have hend : growE (l.take k) = growE l := by rw [List.take_of_length_le (past_end hc1)]
 all_goals (refine ⟨?_, ⟨⟨ht, (by first | rfl | (simp only [hOf, hset, hpost, htm, hmt, if_true, if_false, not_false_eq_true]; first | done | rfl))⟩, ⟨hm, by rw [← hend]; exact (by first | rfl | (simp only [hOf, hset, hpost, htm, hmt, if_true, if_false, not_false_eq_true]; first | done | rfl))⟩, trivial⟩⟩; simp only [fitsL, fits, C.asD, and_true] <;> (rw [hend]; first | exact ⟨rfl, rfl, rfl⟩ | exact ⟨trivial, rfl, trivial⟩ | simp))
end Go.Vm
end
section
namespace Go.Vm
open Go.RowKit Go.Proofs
set_option maxRecDepth 10000
open Go.Proofs.YtmmffeldlhofiaaGreatDoor Punnet.Name Punnet.Num
def fineT (s : ByteArray) : Prop := s.size ≤ 900000 ∧ ∀ a ∈ splitB s 0, a.size ≤ 900
theorem fine_small {s : ByteArray} (h : s.size ≤ 800) : fineT s := ⟨by omega, fun a ha => Nat.le_trans (split_size ha) (by omega)⟩
theorem fine_text {e : EdgeD} (h : edgeB e = true) : fineT (textE e) := ⟨Nat.le_trans (textE_size h) (by decide), edge_words h⟩
noncomputable def etx (l : List EdgeD) (k : Nat) : List ByteArray := (l.take k).map textE
theorem etx_len {l : List EdgeD} {k : Nat} (h : k ≤ l.length) : (etx l k).length = k := by unfold etx; rw [List.length_map, List.length_take]; omega
theorem etx_take {l : List EdgeD} {k : Nat} {p : EdgeD} (hp : l[k]? = some p) : (etx l (k + 1)).map strD = (etx l k).map strD ++ [strD (textE p)] := by
  unfold etx
  rw [List.take_add_one, hp]; simp
theorem skEdge_yes (e : EdgeD) (h : edgeB e = true) : Contract Tryz.prog 10 [eD e] [.d (strD (textE e)), .d (.sc (.int .i64 0))] := by
  have := skEdge_any e (okX_edge h)
  rwa [if_pos h, if_pos h] at this
theorem skTree_any (t m : Nat) (ht : NAM ≤ t) (hm : NAM ≤ m) (htm : ¬ t = m) (E : List EdgeD) (hg : Good E) (hE : E.length ≤ 1000) (l : List (TagD × NodeD)) (hl : l.Perm (nodesOf E)) (hb : ∀ e ∈ E, edgeB e = true) : ContractH Tryz.prog 37 [.ptr t 0] [(t, .obj [.mp m]), (m, .mapo (ents l))] [.d (.row (((sortE E).map textE).map strD))] [(t, .obj [.mp m]), (m, .mapo (ents l))] := by
 refine T.fnH [9] Tryz.func37 ?_ (by simp only [List.forall_mem_cons, List.not_mem_nil, false_implies, implies_true, and_true]; exact ⟨ht, hm⟩) (by simp [thing]) (by simp [thing])
 have hmt : ¬ m = t := fun e => htm e.symm
 refine x_callR T.en_42 (edgesL t m ht hm htm E hg hE l hl) ?_ ⟨⟨ht, (by first | rfl | (simp only [hOf, hset, hpost, htm, hmt, if_true, if_false, not_false_eq_true]; first | done | rfl))⟩, ⟨hm, (by first | rfl | (simp only [hOf, hset, hpost, htm, hmt, if_true, if_false, not_false_eq_true]; first | done | rfl))⟩, trivial⟩
 refine x_len ?_
 refine xnil 3 500003 9 rfl (by decide) (by decide +kernel) ?_
 refine xloopR (fb := [9]) T.ok (Nat.le_of_ble_eq_true rfl) [9, 10] (fun (k : Nat) => [(11, .c (.d (.sc (.int .i64 (k : Nat))))), (3, .c (.own 500003 9 ((etx (sortE E) k).map strD)))]) (fun k => k ≤ (sortE E).length ∧ True) (fun k => (sortE E).length - k) 0 ⟨Nat.zero_le _, trivial⟩ (x_ent (by first | rfl | (simp only [Tr.get]; simp; done)) (x_ent (by first | rfl | (simp only [Tr.get]; simp; done)) trivial)) ?_
 rintro k ⟨hk, hi⟩
 have htw := etx_len hk
 have hsl := sortE_len E
 refine br (fun hc1 => ?y1) (fun hc1 => ?n1)
 case' y1 =>
  obtain ⟨p, hp⟩ := elem_at hc1
  have hkl := lt_len hp
  have hpb : edgeB p = true := hb p ((sortE_perm E).mem_iff.1 (List.mem_of_getElem? hp))
  first | refine x_ix (by exact mapAt hp) ?_ | refine x_ixI (by exact mapAt hp) ?_
  refine x_call T.en_10 (skEdge_yes p hpb) ?_
  refine brT ?_
  first | refine x_app ?_ (by first | exact eDs_wide _ | exact eD_wide | exact str1_wide | exact strsl_wide _ | (simp [D.cells])) (h1 := by unfold maxLen; ((try simp only [List.length_map, List.length_append, List.length_cons, List.length_nil]); omega)) (h2 := by ((try simp only [List.length_map, List.length_append, List.length_cons, List.length_nil]); omega)) | refine x_appN ?_ (by first | exact eDs_wide _ | exact eD_wide | exact str1_wide | exact strsl_wide _ | (simp [D.cells])) (h1 := by unfold maxLen; ((try simp only [List.length_map, List.length_append, List.length_cons, List.length_nil]); omega)) (h2 := by ((try simp only [List.length_map, List.length_append, List.length_cons, List.length_nil]); omega))
  first | refine x_inc ?_ (h := by ((try simp only [List.length_map, List.length_append, List.length_cons, List.length_nil]); omega)) | refine x_add ?_ (h := by first | exact IntWalk.i64_in _ (by ((try simp only [List.length_map, List.length_append, List.length_cons, List.length_nil]); omega)) | rfl) | refine x_bin rfl rfl ?_
  refine x_rnd (k + 1) ⟨lt_len hp, trivial⟩ (by (try dsimp only); have := lt_len hp; omega) rfl (x_ent (by first | rfl | (simp only [Tr.get]; simp; done)) (x_ent (by simp only [Tr.get]; first | (rw [etx_take hp]; done) | (rw [etx_take hp]; rfl)) trivial)) rfl
 case' n1 =>
  have hend : (sortE E).take k = sortE E := List.take_of_length_le (past_end hc1)
 all_goals (refine ⟨?_, ⟨⟨ht, (by first | rfl | (simp only [hOf, hset, hpost, htm, hmt, if_true, if_false, not_false_eq_true]; first | done | rfl))⟩, ⟨hm, (by first | rfl | (simp only [hOf, hset, hpost, htm, hmt, if_true, if_false, not_false_eq_true]; first | done | rfl))⟩, trivial⟩⟩; simp only [fitsL, fits, C.asD, and_true] <;> (unfold etx; rw [hend]))
theorem edgesNil_any  : Contract Tryz.prog 42 [.sc (.pointer none)] [.d (.row [])] := by
 refine T.fn [] Tryz.func42 ?_
 first | refine And.intro ⟨_, Tryz.underlying74⟩ ?_ | refine x_bin rfl rfl ?_
 refine brT ?_
 all_goals (refine x_ret ?_; simp only [fitsL, fits, C.asD, and_true] <;> (rfl))
theorem skTreeNil_any  : Contract Tryz.prog 37 [.sc (.pointer none)] [.d (.row [])] := by
 refine T.fn [] Tryz.func37 ?_
 refine x_call T.en_42 (edgesNil_any) ?_
 refine x_len ?_
 refine xnil 3 500003 9 rfl (by decide) (by decide +kernel) ?_
 refine xloopR (fb := []) T.ok (Nat.le_of_ble_eq_true rfl) [9, 10] (fun (k : Nat) => [(11, .c (.d (.sc (.int .i64 (k : Nat))))), (3, .c (.own 500003 9 []))]) (fun k => k = 0) (fun k => 0) 0 rfl (x_ent (by first | rfl | (simp only [Tr.get]; simp; done)) (x_ent (by first | rfl | (simp only [Tr.get]; simp; done)) trivial)) ?_
 rintro k hk
 refine br (fun hc1 => ?y1) (fun hc1 => ?n1)
 case' y1 =>
  exfalso; subst hk; simp at hc1; done
 all_goals (refine x_ret ?_; simp only [fitsL, fits, C.asD, and_true] <;> (rfl))
theorem skGrow_any (t m : Nat) (ht : NAM ≤ t) (hm : NAM ≤ m) (htm : ¬ t = m) (l : List ByteArray) (hl : l.length ≤ 1000) (hs : ∀ s ∈ l, fineT s) : ContractH Tryz.prog 39 [.row (l.map strD)] [(t, .free), (m, .free)] [.d (if (grownL l).2.2 = 0 then .ptr t 0 else .sc (.pointer none)), .d (.sc (.int .i64 (((grownL l).2.1 : Nat) : Int))), .d (.sc (.int .i64 ((grownL l).2.2)))] [(t, .obj [.mp m]), (m, .mapo (ents (nodesOf (grownL l).1)))] := by
 refine T.fnH [10, 27] Tryz.func39 ?_ (by simp only [List.forall_mem_cons, List.not_mem_nil, false_implies, implies_true, and_true]; exact ⟨ht, hm⟩) (by simp [thing]) (by simp [thing])
 have hmt : ¬ m = t := fun e => htm e.symm
 refine x_callH T.en_81 (new_any t m ht hm htm) ?_ ⟨⟨ht, (by first | rfl | (simp only [hOf, hset, hpost, htm, hmt, if_true, if_false, not_false_eq_true]; first | done | rfl))⟩, ⟨hm, (by first | rfl | (simp only [hOf, hset, hpost, htm, hmt, if_true, if_false, not_false_eq_true]; first | done | rfl))⟩, trivial⟩
 refine x_len ?_
 refine xloop (fb := [10, 27]) T.ok (Nat.le_of_ble_eq_true rfl) [0, 5, 11, 12] (fun (k : Nat) => [(13, .c (.d (.sc (.int .i64 (k : Nat)))))]) (fun k => (hset (hpost (hOf [(t, .free), (m, .free)]) [(t, .obj [.mp m]), (m, .mapo (ents (nodesOf [])))]) m (.mapo (ents (nodesOf (gL l k)))))) (fun k => k ≤ l.length ∧ GoesL l k) (fun k => l.length - k) 0 ⟨Nat.zero_le _, goesL_zero l⟩ (x_ent (by first | rfl | (simp only [Tr.get]; simp; done)) trivial) (by first | rfl | exact grown_first htm) ?_
 rintro k ⟨hk, hi⟩
 have hgg := gL_good l k
 have hg := hgg.1
 have hE := hgg.2
 refine br (fun hc1 => ?y1) (fun hc1 => ?n1)
 case' y1 =>
  obtain ⟨p, hp⟩ := elem_at hc1
  have hkl := lt_len hp
  have hpf := hs p (List.mem_of_getElem? hp)
  have hps := hpf.1
  have hws := hpf.2
  have hoX := okX_read p
  first | refine x_ix (by exact mapAt hp) ?_ | refine x_ixI (by exact mapAt hp) ?_
  refine x_call T.en_12 (skReadEdge_any p (by omega) hws) ?_
  refine br (fun hc2 => ?y2) (fun hc2 => ?n2)
  case' y2 =>
   obtain ⟨e, he⟩ : ∃ e, edgeS p = some e := by cases hq : edgeS p with | none => rw [hq] at hc2; simp at hc2 | some r => exact ⟨r, rfl⟩
   refine x_callH T.en_83 (put_any t m ht hm htm (gL l k) ((edgeS p).getD noEdge) (by omega) hg hoX) ?_ ⟨⟨ht, (by first | rfl | (simp only [hOf, hset, hpost, htm, hmt, if_true, if_false, not_false_eq_true]; first | done | rfl))⟩, ⟨hm, (by first | rfl | (simp only [hOf, hset, hpost, htm, hmt, if_true, if_false, not_false_eq_true]; first | done | rfl))⟩, trivial⟩
   refine br (fun hc3 => ?y3) (fun hc3 => ?n3)
   case' y3 =>
    have hc : ¬ (putE (gL l k) e).2 = 0 := by rw [he] at hc3; exact hc3
    have hP := goesL_no2 hi hp he hc
   case' n3 =>
    have hc : (putE (gL l k) e).2 = 0 := by rw [he] at hc3; simpa using hc3
    have hnx := goesL_next hi hp he hc
    first | refine x_inc ?_ | refine x_add ?_ | refine x_bin rfl rfl ?_
    refine x_rnd (k + 1) ⟨lt_len hp, hnx⟩ (by (try dsimp only); have := lt_len hp; omega) rfl (x_ent (by first | rfl | (simp only [Tr.get]; simp; done)) trivial) (by rw [gL_take hp]; exact grown_next htm)
  case' n2 =>
   have he : edgeS p = none := by cases hq : edgeS p with | none => rfl | some r => rw [hq] at hc2; simp at hc2
   have hP := goesL_no1 hi hp he
   refine br (fun hc4 => ?y4) (fun hc4 => ?n4)
   case' n4 =>
    exfalso; rw [he] at hc4; simp at hc4; done
 case' n1 =>
  have hend : k = l.length := by have := past_end hc1; omega
  have hP := goesL_end hi hend
  refine x_len ?_
 all_goals (refine ⟨?_, ⟨⟨ht, (by first | rfl | (simp only [hOf, hset, hpost, htm, hmt, if_true, if_false, not_false_eq_true]; first | done | rfl))⟩, ⟨hm, by rw [hP]; (try rw [he]); exact (by first | rfl | (simp only [hOf, hset, hpost, htm, hmt, if_true, if_false, not_false_eq_true]; first | done | rfl))⟩, trivial⟩⟩; simp only [fitsL, fits, C.asD, and_true] <;> (rw [hP]; (try rw [he]); first | exact ⟨rfl, rfl, rfl⟩ | (simp only [if_neg hc]; exact ⟨rfl, rfl, rfl⟩) | (dsimp only; rw [if_neg hc]; exact ⟨rfl, rfl, rfl⟩) | (dsimp only; rw [if_neg hc]; rfl)))
theorem ref36Grow_any (l : List ByteArray) (hl : l.length ≤ 1000) (hs : ∀ s ∈ l, fineT s) : Contract Tryz.prog 45 [.row (l.map strD)] [.d (.row ((if (grownL l).2.2 = 0 then (grownL l).1 else []).map eD)), .d (.sc (.int .i64 (((grownL l).2.1 : Nat) : Int))), .d (.sc (.int .i64 ((grownL l).2.2)))] := by
 refine T.fn [5] Tryz.func45 ?_
 refine x_frz ?_
 refine xloopR (fb := [5]) T.ok (Nat.le_of_ble_eq_true rfl) [0] (fun (k : Nat) => [(6, .c (.d (.sc (.int .i64 (k : Nat))))), (5, .c (.d (.row ((gL l k).map eD))))]) (fun k => k ≤ l.length ∧ GoesL l k) (fun k => l.length - k) 0 ⟨Nat.zero_le _, goesL_zero l⟩ (x_ent (by first | rfl | (simp only [Tr.get]; simp; done)) (x_ent (by first | rfl | (simp only [Tr.get]; simp; done)) trivial)) ?_
 rintro k ⟨hk, hi⟩
 have hgg := gL_good l k
 have hg := hgg.1
 have hE := hgg.2
 refine x_len ?_
 refine br (fun hc1 => ?y1) (fun hc1 => ?n1)
 case' y1 =>
  obtain ⟨p, hp⟩ := elem_at hc1
  have hkl := lt_len hp
  have hpf := hs p (List.mem_of_getElem? hp)
  have hps := hpf.1
  have hws := hpf.2
  have hoX := okX_read p
  first | refine x_ix (by exact mapAt hp) ?_ | refine x_ixI (by exact mapAt hp) ?_
  refine x_call T.en_15 (ref36ReadEdge_any p (by omega) hws) ?_
  refine br (fun hc2 => ?y2) (fun hc2 => ?n2)
  case' y2 =>
   have he : edgeS p = none := by cases hq : edgeS p with | none => rfl | some r => rw [hq] at hc2; simp at hc2
   have hP := goesL_no1 hi hp he
  case' n2 =>
   obtain ⟨e, he⟩ : ∃ e, edgeS p = some e := by cases hq : edgeS p with | none => rw [hq] at hc2; simp at hc2 | some r => exact ⟨r, rfl⟩
   refine x_call T.en_82 (refTreePut_any (gL l k) ((edgeS p).getD noEdge) (by omega) hg.ok hoX) ?_
   refine br (fun hc3 => ?y3) (fun hc3 => ?n3)
   case' y3 =>
    have hc : ¬ (putE (gL l k) e).2 = 0 := by rw [he] at hc3; exact hc3
    have hP := goesL_no2 hi hp he hc
   case' n3 =>
    have hc : (putE (gL l k) e).2 = 0 := by rw [he] at hc3; simpa using hc3
    have hnx := goesL_next hi hp he hc
    refine x_frz ?_
    first | refine x_inc ?_ | refine x_add ?_ | refine x_bin rfl rfl ?_
    refine x_rnd (k + 1) ⟨lt_len hp, hnx⟩ (by (try dsimp only); have := lt_len hp; omega) rfl (x_ent (by first | rfl | (simp only [Tr.get]; simp; done)) (x_ent (by simp only [Tr.get]; rw [gL_take hp]) trivial)) rfl
 case' n1 =>
  have hend : k = l.length := by have := past_end hc1; omega
  have hP := goesL_end hi hend
  refine x_len ?_
 all_goals (refine x_ret ?_; simp only [fitsL, fits, C.asD, and_true] <;> (rw [hP]; (try rw [he]); first | exact ⟨rfl, rfl, rfl⟩ | (simp only [if_neg hc]; exact ⟨rfl, rfl, rfl⟩) | (dsimp only; rw [if_neg hc]; exact ⟨rfl, rfl, rfl⟩) | (dsimp only; rw [if_neg hc]; rfl)))
theorem skGrow_ok (t m : Nat) (ht : NAM ≤ t) (hm : NAM ≤ m) (htm : ¬ t = m) (l : List ByteArray) (hl : l.length ≤ 1000) (hs : ∀ s ∈ l, fineT s) {F : List EdgeD} {n : Nat} (hP : grownL l = (F, n, 0)) : ContractH Tryz.prog 39 [.row (l.map strD)] [(t, .free), (m, .free)] [.d (.ptr t 0), .d (.sc (.int .i64 ((n : Nat) : Int))), .d (.sc (.int .i64 0))] [(t, .obj [.mp m]), (m, .mapo (ents (nodesOf F)))] := by
  have := skGrow_any t m ht hm htm l hl hs
  rw [hP] at this
  exact this
theorem skGrow_no (t m : Nat) (ht : NAM ≤ t) (hm : NAM ≤ m) (htm : ¬ t = m) (l : List ByteArray) (hl : l.length ≤ 1000) (hs : ∀ s ∈ l, fineT s) {F : List EdgeD} {n : Nat} {c : Int} (hP : grownL l = (F, n, c)) (hc : ¬ c = 0) : ContractH Tryz.prog 39 [.row (l.map strD)] [(t, .free), (m, .free)] [.d (.sc (.pointer none)), .d (.sc (.int .i64 ((n : Nat) : Int))), .d (.sc (.int .i64 c))] [(t, .obj [.mp m]), (m, .mapo (ents (nodesOf F)))] := by
  have := skGrow_any t m ht hm htm l hl hs
  rw [hP] at this
  dsimp only at this
  rwa [if_neg hc] at this
end Go.Vm
end
section
namespace Go.Vm
open Go.RowKit Go.Proofs
set_option maxRecDepth 10000
open Go.Proofs.YtmmffeldlhofiaaGreatDoor Punnet.Name Punnet.Num
theorem decO (q : Prop) [Decidable q] {p : Prop} (h1 : q → p) (h2 : ¬ q → p) : p := by
  by_cases h : q
  · exact h1 h
  · exact h2 h
theorem live_len3 {E : List EdgeD} (h : E.length ≤ 1000) : (liveE E).length ≤ 1001 := by
  unfold liveE
  rw [List.length_cons, List.length_map]
  have := List.length_filter_le (fun e => decide ((cameOf E e.id).1 = 2)) (sortE E)
  rw [sortE_len] at this
  omega
theorem small8_next {l : List ByteArray} {k : Nat} {p : ByteArray} (hp : l[k]? = some p) (ha : ∀ s ∈ l.take k, s.size ≤ 800) (hf : p.size ≤ 800) : ∀ s ∈ l.take (k + 1), s.size ≤ 800 := by
  intro x hx
  rw [List.take_add_one, hp] at hx
  rcases List.mem_append.1 hx with hx | hx
  · exact ha x hx
  · simp at hx; rw [hx]; exact hf
theorem texts_e {E : List EdgeD} (h : ∀ e ∈ E, edgeB e = true) : ∀ s ∈ (sortE E).map textE, fineT s := by
  intro s hs
  obtain ⟨f, hf, rfl⟩ := List.mem_map.1 hs
  exact fine_text (h f ((sortE_perm E).mem_iff.1 hf))
theorem sketchTrees_any (l : List EdgeD) (ls : List ByteArray) : ContractH Tryz.prog 7 [.row (l.map eD), .row (ls.map strD)] [(1000000, .free), (1000001, .free), (1000002, .free), (1000003, .free), (1000004, .free), (1000005, .free)] [.d (.sc (.bool (true)))] [] := by
 refine T.fnH [45, 57, 77, 97, 104, 106, 112, 135] Tryz.func7 ?_ (by simp only [List.forall_mem_cons, List.not_mem_nil, false_implies, implies_true, and_true]; decide) (by simp [thing]) (by simp [thing])
 refine x_call T.en_8 (awake36_any) ?_
 refine brF ?_
 refine x_call T.en_35 (refHeavy_any l 50 (by decide)) ?_
 refine br (fun hg2 => ?y2) (fun hg2 => ?n2)
 case' y2 =>
  refine brT ?_
 case' n2 =>
  obtain ⟨hl50, hok⟩ := heavyE_ok (m := 50) (by simpa using hg2)
  have hgg := grow_good hok
  have hg := hgg.1
  have hE40 := hgg.2
  have hsl := sortE_len (growE l)
  have hgS := good_sort hg
  refine x_len ?_
  refine br (fun hc4 => ?y4) (fun hc4 => ?n4)
  case' n4 =>
   refine xloopR (fb := [45, 57, 77, 97, 104, 106, 112, 135]) T.ok (Nat.le_of_ble_eq_true rfl) [0, 1] (fun (k : Nat) => [(5, .c (.d (.sc (.int .i64 (k : Nat)))))]) (fun k => k ≤ ls.length ∧ ∀ s ∈ ls.take k, s.size ≤ 800) (fun k => ls.length - k) 0 ⟨Nat.zero_le _, (by simp)⟩ (x_ent (by first | rfl | (simp only [Tr.get]; simp; done)) trivial) ?_
   rintro k ⟨hk, hi⟩
   refine x_len ?_
   refine br (fun hc5 => ?y5) (fun hc5 => ?n5)
   case' y5 =>
    obtain ⟨p, hp⟩ := elem_at hc5
    have hkl := lt_len hp
    first | refine x_ix (by exact mapAt hp) ?_ | refine x_ixI (by exact mapAt hp) ?_
    refine x_len ?_
    refine br (fun hc6 => ?y6) (fun hc6 => ?n6)
    case' n6 =>
     have hz : p.size ≤ 800 := by omega
     first | refine x_inc ?_ (h := by ((try simp only [List.length_map, List.length_append, List.length_cons, List.length_nil]); omega)) | refine x_add ?_ (h := by first | exact IntWalk.i64_in _ (by ((try simp only [List.length_map, List.length_append, List.length_cons, List.length_nil]); omega)) | rfl) | refine x_bin rfl rfl ?_
     refine x_rnd (k + 1) ⟨lt_len hp, (small8_next hp hi hz)⟩ (by (try dsimp only); have := lt_len hp; omega) rfl (x_ent (by first | rfl | (simp only [Tr.get]; simp; done)) trivial) rfl
   case' n5 =>
    have hz4 : ∀ s ∈ ls, s.size ≤ 800 := by rw [List.take_of_length_le (past_end hc5)] at hi; exact hi
    have hls : ls.length ≤ 1000 := by omega
    have hz5 : ∀ s ∈ ls, fineT s := fun s h => fine_small (hz4 s h)
    refine x_callH T.en_36 (grown_any 1000000 1000001 (by decide) (by decide) (by decide) l (by omega) hok) ?_ ⟨⟨by decide, rfl⟩, ⟨by decide, rfl⟩, trivial⟩
    refine brF ?_
    refine x_call T.en_37 (skTreeNil_any) ?_
    refine x_len ?_
    refine br (fun hc8 => ?y8) (fun hc8 => ?n8)
    case' y8 =>
     exact absurd rfl hc8
    case' n8 =>
     refine x_callR T.en_37 (skTree_any 1000000 1000001 (by decide) (by decide) (by decide) (growE l) hg (by omega) (nodesOf (growE l)) (.refl _) (growE_right l)) ?_ ⟨⟨by decide, rfl⟩, ⟨by decide, rfl⟩, trivial⟩
     refine x_call T.en_38 (by first | exact refSorted_any (growE l) (by omega) | exact refSorted_any F (by omega)) ?_
     refine xloopR (fb := [45, 57, 77, 97, 104, 106, 112, 135]) T.ok (Nat.le_of_ble_eq_true rfl) [1, 6, 9, 11] (fun (k : Nat) => [(12, .c (.d (.sc (.int .i64 (k : Nat))))), (10, .c (.own 58 9 ((etx (sortE (growE l)) k).map strD)))]) (fun k => k ≤ (sortE (growE l)).length ∧ True) (fun k => (sortE (growE l)).length - k) 0 ⟨Nat.zero_le _, trivial⟩ (x_ent (by first | rfl | (simp only [Tr.get]; simp; done)) (x_ent (by first | rfl | (simp only [Tr.get]; simp; done)) trivial)) ?_
     rintro k ⟨hk, hi⟩
     have htw := etx_len hk
     refine x_len ?_
     refine br (fun hc9 => ?y9) (fun hc9 => ?n9)
     case' y9 =>
      obtain ⟨p, hp⟩ := elem_at hc9
      have hkl := lt_len hp
      have hpb : edgeB p = true := growE_right l p ((sortE_perm _).mem_iff.1 (List.mem_of_getElem? hp))
      first | refine x_ix (by exact mapAt hp) ?_ | refine x_ixI (by exact mapAt hp) ?_
      refine x_call T.en_13 (ref36Edge_any p hpb) ?_
      first | refine x_app ?_ (by first | exact eDs_wide _ | exact eD_wide | exact str1_wide | exact strsl_wide _ | (simp [D.cells])) (h1 := by unfold maxLen; ((try simp only [List.length_map, List.length_append, List.length_cons, List.length_nil]); omega)) (h2 := by ((try simp only [List.length_map, List.length_append, List.length_cons, List.length_nil]); omega)) | refine x_appN ?_ (by first | exact eDs_wide _ | exact eD_wide | exact str1_wide | exact strsl_wide _ | (simp [D.cells])) (h1 := by unfold maxLen; ((try simp only [List.length_map, List.length_append, List.length_cons, List.length_nil]); omega)) (h2 := by ((try simp only [List.length_map, List.length_append, List.length_cons, List.length_nil]); omega))
      first | refine x_inc ?_ (h := by ((try simp only [List.length_map, List.length_append, List.length_cons, List.length_nil]); omega)) | refine x_add ?_ (h := by first | exact IntWalk.i64_in _ (by ((try simp only [List.length_map, List.length_append, List.length_cons, List.length_nil]); omega)) | rfl) | refine x_bin rfl rfl ?_
      refine x_rnd (k + 1) ⟨lt_len hp, trivial⟩ (by (try dsimp only); have := lt_len hp; omega) rfl (x_ent (by first | rfl | (simp only [Tr.get]; simp; done)) (x_ent (by simp only [Tr.get]; first | (rw [etx_take hp]; done) | (rw [etx_take hp]; rfl)) trivial)) rfl
     case' n9 =>
      have hend : (sortE (growE l)).take k = (sortE (growE l)) := List.take_of_length_le (past_end hc9)
      have het : etx (sortE (growE l)) k = ((sortE (growE l)).map textE) := by unfold etx; rw [hend]
      have htx : ∀ s ∈ ((sortE (growE l)).map textE), fineT s := texts_e (growE_right l)
      have hSS := sort_sort hg
      have hLE : liveE (sortE (growE l)) = liveE (growE l) := liveE_perm hgS.uniq (sortE_perm _)
      refine x_callH T.en_39 (skGrow_ok 1000002 1000003 (by decide) (by decide) (by decide) ((sortE (growE l)).map textE) (by rw [List.length_map, sortE_len]; omega) htx (grown_sorted hg (by omega) (growE_right l))) ?_ ⟨⟨by decide, rfl⟩, ⟨by decide, rfl⟩, trivial⟩
      refine x_call T.en_40 (refSames_any _ _ (by first | assumption | (simp [sortE_len]; omega))) ?_
      refine br (fun hg10 => ?y10) (fun hg10 => ?n10)
      case' y10 =>
       exact absurd het.symm hg10
      case' n10 =>
       refine br (fun hg11 => ?y11) (fun hg11 => ?n11)
       case' y11 =>
        exact absurd rfl hg11
       case' n11 =>
        refine x_len ?_
        refine br (fun hg12 => ?y12) (fun hg12 => ?n12)
        case' y12 =>
         exact absurd (by simp [sortE_len]) hg12
        case' n12 =>
         refine x_callR T.en_42 (edgesL 1000002 1000003 (by decide) (by decide) (by decide) (sortE (growE l)) hgS (by omega) (nodesOf (sortE (growE l))) (.refl _)) ?_ ⟨⟨by decide, rfl⟩, ⟨by decide, rfl⟩, trivial⟩
         refine x_call T.en_41 (by first | exact refSameEdges_any (sortE (sortE (growE l))) (sortE (growE l)) (by rw [sortE_len, sortE_len]; omega) (fun e he => hgS.ok e ((sortE_perm _).mem_iff.1 he)) | exact refSameEdges_any _ _ (by rw [sortE_len]; omega) (fun e he => hgF.ok e ((sortE_perm _).mem_iff.1 he))) ?_
         refine br (fun hg13 => ?y13) (fun hg13 => ?n13)
         case' y13 =>
          exact absurd hSS hg13
         case' n13 =>
          refine x_callR T.en_44 (liveL 1000002 1000003 (by decide) (by decide) (by decide) (sortE (growE l)) hgS (by omega) (nodesOf (sortE (growE l))) (.refl _)) ?_ ⟨⟨by decide, rfl⟩, ⟨by decide, rfl⟩, trivial⟩
          refine x_callR T.en_44 (liveL 1000000 1000001 (by decide) (by decide) (by decide) (growE l) hg (by omega) (nodesOf (growE l)) (.refl _)) ?_ ⟨⟨by decide, rfl⟩, ⟨by decide, rfl⟩, trivial⟩
          refine x_call T.en_43 (refSameTags_any _ _ (live_len3 (by rw [sortE_len]; omega))) ?_
          refine br (fun hc14 => ?y14) (fun hc14 => ?n14)
          case' y14 =>
           first | exact absurd hLE hc14 | exact absurd rfl hc14 | exact absurd hSS hc14
          case' n14 =>
           have hgo := grownL_good ls
           have c6 := ref36Grow_any ls hls hz5
           have hPP : grownL ls = ((grownL ls).1, (grownL ls).2.1, (grownL ls).2.2) := rfl
           generalize (grownL ls).1 = F at hgo hPP
           generalize (grownL ls).2.1 = n at hPP
           generalize (grownL ls).2.2 = c at hPP
           have hgF := hgo.1
           have hF := hgo.2
           rw [hPP] at c6
           dsimp only at c6
           refine decO (c = 0) (fun e => ?s2_0) (fun e => ?s2_1)
           case' s2_0 =>
            subst e
            have hP := hPP
            rw [if_pos rfl] at c6
            first | refine x_callH T.en_39 (skGrow_ok 1000004 1000005 (by decide) (by decide) (by decide) ls hls hz5 hP) ?_ ⟨⟨by decide, rfl⟩, ⟨by decide, rfl⟩, trivial⟩ | refine x_callH T.en_39 (skGrow_no 1000004 1000005 (by decide) (by decide) (by decide) ls hls hz5 hP hc) ?_ ⟨⟨by decide, rfl⟩, ⟨by decide, rfl⟩, trivial⟩
            refine x_call T.en_45 (c6) ?_
            refine br (fun hg15 => ?y15) (fun hg15 => ?n15)
            case' y15 =>
             exact absurd rfl hg15
            case' n15 =>
             refine br (fun hc16 => ?y16) (fun hc16 => ?n16)
             case' y16 =>
              exact absurd rfl hc16
             case' n16 =>
              refine brF ?_
              refine x_callR T.en_42 (edgesL 1000004 1000005 (by decide) (by decide) (by decide) F hgF (by omega) (nodesOf F) (.refl _)) ?_ ⟨⟨by decide, rfl⟩, ⟨by decide, rfl⟩, trivial⟩
              refine x_call T.en_38 (by first | exact refSorted_any (growE l) (by omega) | exact refSorted_any F (by omega)) ?_
              refine x_call T.en_41 (by first | exact refSameEdges_any (sortE (sortE (growE l))) (sortE (growE l)) (by rw [sortE_len, sortE_len]; omega) (fun e he => hgS.ok e ((sortE_perm _).mem_iff.1 he)) | exact refSameEdges_any _ _ (by rw [sortE_len]; omega) (fun e he => hgF.ok e ((sortE_perm _).mem_iff.1 he))) ?_
           case' s2_1 =>
            have hc := e
            have hP := hPP
            rw [if_neg hc] at c6
            first | refine x_callH T.en_39 (skGrow_ok 1000004 1000005 (by decide) (by decide) (by decide) ls hls hz5 hP) ?_ ⟨⟨by decide, rfl⟩, ⟨by decide, rfl⟩, trivial⟩ | refine x_callH T.en_39 (skGrow_no 1000004 1000005 (by decide) (by decide) (by decide) ls hls hz5 hP hc) ?_ ⟨⟨by decide, rfl⟩, ⟨by decide, rfl⟩, trivial⟩
            refine x_call T.en_45 (c6) ?_
            refine br (fun hg18 => ?y18) (fun hg18 => ?n18)
            case' y18 =>
             exact absurd rfl hg18
            case' n18 =>
             refine br (fun hc19 => ?y19) (fun hc19 => ?n19)
             case' y19 =>
              exact absurd rfl hc19
             case' n19 =>
              refine br (fun hc20 => ?y20) (fun hc20 => ?n20)
              case' y20 =>
               first | refine And.intro ⟨_, Tryz.underlying74⟩ ?_ | refine x_bin rfl rfl ?_
              case' n20 =>
               exact absurd hc20 hc
 all_goals (refine ⟨?_, trivial⟩; simp only [fitsL, fits, C.asD, and_true] <;> (first | rfl | (simp; done)))
end Go.Vm
end
section
namespace Go.Vm
open Go.RowKit Go.Proofs
set_option maxRecDepth 10000
open Go.RowKit
section
variable {P : Program} {w : World}
theorem reps_cut {ro : Roles} {es : List Value} {o k : Nat} {c d : List D} (h1 : Reps ro w ((es.drop o).take k) c) (h2 : Reps ro w (es.drop (o + k)) d) : Reps ro w (es.drop o) (c ++ d) := by
  have h := h1.append h2
  rwa [← List.drop_drop, List.take_append_drop] at h
theorem reps_end {ro : Roles} {es : List Value} {o : Nat} (h : es.length = o) : Reps ro w (es.drop o) [] := by
  rw [List.drop_eq_nil_of_le (by omega)]; exact Reps.nil
theorem cells_int {t : TypeId} {cs : List Value} (ht : P.underlying t = some (.int .i64)) (h : Reads P w t cs) : ∃ n : Int, Reps allFrozen w cs [.sc (.int .i64 n)] := by
  obtain ⟨n, rfl, _⟩ := h.int ht
  exact ⟨n, rfl, by simp [Value.oneCell'], fun j u c hu hc => by cases j with | zero => simp at hu hc; subst hu hc; exact .sc rfl | succ j => simp at hu⟩
theorem cells_str {t : TypeId} {cs : List Value} (ht : P.underlying t = some .string) (h : Reads P w t cs) : ∃ s : ByteArray, Reps allFrozen w cs [.sc (.string s)] := by
  obtain ⟨s, rfl, _⟩ := h.string ht
  exact ⟨s, rfl, by simp [Value.oneCell'], fun j u c hu hc => by cases j with | zero => simp at hu hc; subst hu hc; exact .sc rfl | succ j => simp at hu⟩
theorem cells_row {t e : TypeId} {sz : Nat} {α : Type} {enc : α → D} {cs : List Value} (ht : P.underlying t = some (.slice e)) (hsz : P.cellsOf e = sz) (h0 : 0 < sz) (hw : ∀ x, (enc x).cells.length = sz) (hel : Cells P w e enc (fun _ => True)) (h : Reads P w t cs) : ∃ xs : List α, Reps allFrozen w cs [.row (xs.map enc)] := by
  have hc : ∃ a l c, cs = [.slice a l c] := by
    rcases h.slice ht with rfl | ⟨a, l, c, rfl, _⟩
    · exact ⟨_, _, _, rfl⟩
    · exact ⟨_, _, _, rfl⟩
  obtain ⟨a, l, c, rfl⟩ := hc
  obtain ⟨xs, hx, _⟩ := row_of ht hsz h0 hw hel h
  exact ⟨xs, rfl, by simp [Value.oneCell'], fun j u c hu hc => by cases j with | zero => simp at hu hc; subst hu hc; exact hx | succ j => simp at hu⟩
end
theorem str_cells (w : World) : Cells Tryz.prog w 9 strD (fun _ => True) := by
  intro es h
  obtain ⟨s, hs⟩ := cells_str Tryz.underlying9 h
  exact ⟨s, hs, trivial⟩
theorem ref_cells (w : World) : Cells Tryz.prog w 25 rD (fun _ => True) := by
  intro es h
  obtain ⟨hl, hf⟩ := h.struct Tryz.underlying25
  rw [show Tryz.prog.cellsOf 25 = 3 from by kernel_rfl] at hl
  have h0 := hf _ (List.mem_cons_self ..)
  simp only [show Tryz.prog.cellsOf 3 = 1 from by kernel_rfl] at h0
  obtain ⟨v0, r0⟩ := cells_int Tryz.underlying3 h0
  have h1 := hf _ (List.mem_cons_of_mem _ (List.mem_cons_self ..))
  simp only [show Tryz.prog.cellsOf 9 = 1 from by kernel_rfl] at h1
  obtain ⟨v1, r1⟩ := cells_str Tryz.underlying9 h1
  have h2 := hf _ (List.mem_cons_of_mem _ (List.mem_cons_of_mem _ (List.mem_cons_self ..)))
  simp only [show Tryz.prog.cellsOf 9 = 1 from by kernel_rfl] at h2
  obtain ⟨v2, r2⟩ := cells_str Tryz.underlying9 h2
  exact ⟨⟨v0, v1, v2⟩, reps_cut (o := 0) (k := 1) r0 (reps_cut (o := 1) (k := 1) r1 (reps_cut (o := 2) (k := 1) r2 (reps_end hl))), trivial⟩
theorem pair_cells (w : World) : Cells Tryz.prog w 131 pairD (fun _ => True) := by
  intro es h
  obtain ⟨hl, hf⟩ := h.struct Tryz.underlying131
  rw [show Tryz.prog.cellsOf 131 = 2 from by kernel_rfl] at hl
  have h0 := hf _ (List.mem_cons_self ..)
  simp only [show Tryz.prog.cellsOf 9 = 1 from by kernel_rfl] at h0
  obtain ⟨v0, r0⟩ := cells_str Tryz.underlying9 h0
  have h1 := hf _ (List.mem_cons_of_mem _ (List.mem_cons_self ..))
  simp only [show Tryz.prog.cellsOf 9 = 1 from by kernel_rfl] at h1
  obtain ⟨v1, r1⟩ := cells_str Tryz.underlying9 h1
  exact ⟨(v0, v1), reps_cut (o := 0) (k := 1) r0 (reps_cut (o := 1) (k := 1) r1 (reps_end hl)), trivial⟩
theorem field_cells (w : World) : Cells Tryz.prog w 28 fD (fun _ => True) := by
  intro es h
  obtain ⟨hl, hf⟩ := h.struct Tryz.underlying28
  rw [show Tryz.prog.cellsOf 28 = 7 from by kernel_rfl] at hl
  have h0 := hf _ (List.mem_cons_self ..)
  simp only [show Tryz.prog.cellsOf 25 = 3 from by kernel_rfl] at h0
  obtain ⟨v0, r0, _⟩ := ref_cells w _ h0
  have h1 := hf _ (List.mem_cons_of_mem _ (List.mem_cons_self ..))
  simp only [show Tryz.prog.cellsOf 3 = 1 from by kernel_rfl] at h1
  obtain ⟨v1, r1⟩ := cells_int Tryz.underlying3 h1
  have h2 := hf _ (List.mem_cons_of_mem _ (List.mem_cons_of_mem _ (List.mem_cons_self ..)))
  simp only [show Tryz.prog.cellsOf 9 = 1 from by kernel_rfl] at h2
  obtain ⟨v2, r2⟩ := cells_str Tryz.underlying9 h2
  have h3 := hf _ (List.mem_cons_of_mem _ (List.mem_cons_of_mem _ (List.mem_cons_of_mem _ (List.mem_cons_self ..))))
  simp only [show Tryz.prog.cellsOf 26 = 1 from by kernel_rfl] at h3
  obtain ⟨v3, r3⟩ := cells_row Tryz.underlying26 (show Tryz.prog.cellsOf 9 = 1 from by kernel_rfl) (by omega) (fun _ => rfl) (str_cells w) h3
  have h4 := hf _ (List.mem_cons_of_mem _ (List.mem_cons_of_mem _ (List.mem_cons_of_mem _ (List.mem_cons_of_mem _ (List.mem_cons_self ..)))))
  simp only [show Tryz.prog.cellsOf 2 = 1 from by kernel_rfl] at h4
  obtain ⟨v4, r4⟩ := cells_int Tryz.underlying2 h4
  exact ⟨⟨v0, v1, v2, v3, v4⟩, reps_cut (o := 0) (k := 3) r0 (reps_cut (o := 3) (k := 1) r1 (reps_cut (o := 4) (k := 1) r2 (reps_cut (o := 5) (k := 1) r3 (reps_cut (o := 6) (k := 1) r4 (reps_end hl))))), trivial⟩
theorem lens_cells (w : World) : Cells Tryz.prog w 31 lD (fun _ => True) := by
  intro es h
  obtain ⟨hl, hf⟩ := h.struct Tryz.underlying31
  rw [show Tryz.prog.cellsOf 31 = 16 from by kernel_rfl] at hl
  have h0 := hf _ (List.mem_cons_self ..)
  simp only [show Tryz.prog.cellsOf 3 = 1 from by kernel_rfl] at h0
  obtain ⟨v0, r0⟩ := cells_int Tryz.underlying3 h0
  have h1 := hf _ (List.mem_cons_of_mem _ (List.mem_cons_self ..))
  simp only [show Tryz.prog.cellsOf 25 = 3 from by kernel_rfl] at h1
  obtain ⟨v1, r1, _⟩ := ref_cells w _ h1
  have h2 := hf _ (List.mem_cons_of_mem _ (List.mem_cons_of_mem _ (List.mem_cons_self ..)))
  simp only [show Tryz.prog.cellsOf 9 = 1 from by kernel_rfl] at h2
  obtain ⟨v2, r2⟩ := cells_str Tryz.underlying9 h2
  have h3 := hf _ (List.mem_cons_of_mem _ (List.mem_cons_of_mem _ (List.mem_cons_of_mem _ (List.mem_cons_self ..))))
  simp only [show Tryz.prog.cellsOf 9 = 1 from by kernel_rfl] at h3
  obtain ⟨v3, r3⟩ := cells_str Tryz.underlying9 h3
  have h4 := hf _ (List.mem_cons_of_mem _ (List.mem_cons_of_mem _ (List.mem_cons_of_mem _ (List.mem_cons_of_mem _ (List.mem_cons_self ..)))))
  simp only [show Tryz.prog.cellsOf 2 = 1 from by kernel_rfl] at h4
  obtain ⟨v4, r4⟩ := cells_int Tryz.underlying2 h4
  have h5 := hf _ (List.mem_cons_of_mem _ (List.mem_cons_of_mem _ (List.mem_cons_of_mem _ (List.mem_cons_of_mem _ (List.mem_cons_of_mem _ (List.mem_cons_self ..))))))
  simp only [show Tryz.prog.cellsOf 28 = 7 from by kernel_rfl] at h5
  obtain ⟨v5, r5, _⟩ := field_cells w _ h5
  have h6 := hf _ (List.mem_cons_of_mem _ (List.mem_cons_of_mem _ (List.mem_cons_of_mem _ (List.mem_cons_of_mem _ (List.mem_cons_of_mem _ (List.mem_cons_of_mem _ (List.mem_cons_self ..)))))))
  simp only [show Tryz.prog.cellsOf 29 = 1 from by kernel_rfl] at h6
  obtain ⟨v6, r6⟩ := cells_row Tryz.underlying29 (show Tryz.prog.cellsOf 131 = 2 from by kernel_rfl) (by omega) (fun _ => rfl) (pair_cells w) h6
  have h7 := hf _ (List.mem_cons_of_mem _ (List.mem_cons_of_mem _ (List.mem_cons_of_mem _ (List.mem_cons_of_mem _ (List.mem_cons_of_mem _ (List.mem_cons_of_mem _ (List.mem_cons_of_mem _ (List.mem_cons_self ..))))))))
  simp only [show Tryz.prog.cellsOf 29 = 1 from by kernel_rfl] at h7
  obtain ⟨v7, r7⟩ := cells_row Tryz.underlying29 (show Tryz.prog.cellsOf 131 = 2 from by kernel_rfl) (by omega) (fun _ => rfl) (pair_cells w) h7
  exact ⟨⟨v0, v1, v2, v3, v4, v5, v6, v7⟩, reps_cut (o := 0) (k := 1) r0 (reps_cut (o := 1) (k := 3) r1 (reps_cut (o := 4) (k := 1) r2 (reps_cut (o := 5) (k := 1) r3 (reps_cut (o := 6) (k := 1) r4 (reps_cut (o := 7) (k := 7) r5 (reps_cut (o := 14) (k := 1) r6 (reps_cut (o := 15) (k := 1) r7 (reps_end hl)))))))), trivial⟩
theorem tag_cells (w : World) : Cells Tryz.prog w 23 tD (fun _ => True) := by
  intro es h
  obtain ⟨hl, hf⟩ := h.struct Tryz.underlying23
  rw [show Tryz.prog.cellsOf 23 = 2 from by kernel_rfl] at hl
  have h0 := hf _ (List.mem_cons_self ..)
  simp only [show Tryz.prog.cellsOf 3 = 1 from by kernel_rfl] at h0
  obtain ⟨v0, r0⟩ := cells_int Tryz.underlying3 h0
  have h1 := hf _ (List.mem_cons_of_mem _ (List.mem_cons_self ..))
  simp only [show Tryz.prog.cellsOf 3 = 1 from by kernel_rfl] at h1
  obtain ⟨v1, r1⟩ := cells_int Tryz.underlying3 h1
  exact ⟨⟨v0, v1⟩, reps_cut (o := 0) (k := 1) r0 (reps_cut (o := 1) (k := 1) r1 (reps_end hl)), trivial⟩
theorem edge_cells (w : World) : Cells Tryz.prog w 33 eD (fun _ => True) := by
  intro es h
  obtain ⟨hl, hf⟩ := h.struct Tryz.underlying33
  rw [show Tryz.prog.cellsOf 33 = 20 from by kernel_rfl] at hl
  have h0 := hf _ (List.mem_cons_self ..)
  simp only [show Tryz.prog.cellsOf 23 = 2 from by kernel_rfl] at h0
  obtain ⟨v0, r0, _⟩ := tag_cells w _ h0
  have h1 := hf _ (List.mem_cons_of_mem _ (List.mem_cons_self ..))
  simp only [show Tryz.prog.cellsOf 23 = 2 from by kernel_rfl] at h1
  obtain ⟨v1, r1, _⟩ := tag_cells w _ h1
  have h2 := hf _ (List.mem_cons_of_mem _ (List.mem_cons_of_mem _ (List.mem_cons_self ..)))
  simp only [show Tryz.prog.cellsOf 31 = 16 from by kernel_rfl] at h2
  obtain ⟨v2, r2, _⟩ := lens_cells w _ h2
  exact ⟨⟨v0, v1, v2⟩, reps_cut (o := 0) (k := 2) r0 (reps_cut (o := 2) (k := 2) r1 (reps_cut (o := 4) (k := 16) r2 (reps_end hl))), trivial⟩
end Go.Vm
end
section
namespace Go.Vm
open Go.RowKit Go.Proofs
set_option maxRecDepth 10000
end Go.Vm
namespace Go.Proofs.YtmmffeldlhofiaaGreatDoor
open Go.RowKit Go.Vm
theorem sketchTrees_walk (a0 : Option Addr) (l0 c0 : Nat) (a1 : Option Addr) (l1 c1 : Nat) (w : World) (r0 : Reads Tryz.prog w 72 [.slice a0 l0 c0]) (r1 : Reads Tryz.prog w 26 [.slice a1 l1 c1]) :
  Calls Tryz.prog 7 #[.slice a0 l0 c0, .slice a1 l1 c1] w fun e w' => e = .returned (.bool true) ∧ Below w.heap.size w w' := by
 obtain ⟨x0, hx0, _⟩ := row_of Tryz.underlying72 (show Tryz.prog.cellsOf 33 = 20 from by kernel_rfl) (by omega) (fun _ => rfl) (edge_cells w) r0
 obtain ⟨x1, hx1, _⟩ := row_of Tryz.underlying26 (show Tryz.prog.cellsOf 9 = 1 from by kernel_rfl) (by omega) (fun _ => rfl) (str_cells w) r1
 refine law_trueH (sketchTrees_any x0 x1) (by simp) rfl ?_
 intro i v d hv hd
 match i, hv, hd with
 | 0, hv, hd => simp at hv hd; subst hv hd; exact hx0
 | 1, hv, hd => simp at hv hd; subst hv hd; exact hx1
 | i + 2, hv, _ => simp at hv
end Go.Proofs.YtmmffeldlhofiaaGreatDoor
namespace Go.Vm
end Go.Vm
end
