/- Part 6 of what the proof of SketchEdges stands on: SkR2, SkR3, TrSortP, TrRefP, TrRef, SkR4, SkL1, LnCells, SketchEdgesWalk. -/
import Derived.Test.YtmmffeldlhofiaaGreatDoorSketchEdgesM5
section
namespace Go.Vm
open Go.RowKit Go.Proofs
set_option linter.unusedVariables false
set_option linter.unusedSimpArgs false
set_option maxRecDepth 10000

open Go.Proofs.YtmmffeldlhofiaaGreatDoor Punnet.Name Punnet.Num

def tws (l : List ByteArray) (k : Nat) : List (ByteArray × ByteArray) := (l.take k).map twoR
theorem tws_take {l : List ByteArray} {k : Nat} {p : ByteArray} (hp : l[k]? = some p) : (tws l (k + 1)).map pairD = (tws l k).map pairD ++ [pairD (twoR p)] := by
  unfold tws
  rw [List.take_add_one, hp]; simp

set_option maxHeartbeats 1000000 in
theorem ref36ParseField_any (w : List ByteArray) (hw : ∀ a ∈ w, a.size ≤ 900000) : Contract Tryz.prog 78 [.row (w.map strD)] [.d (fD (parseRF w).1), .d (.sc (.bool ((parseRF w).2)))] := by
 refine T.fn [] Tryz.func78 ?_
 refine x_len ?_
 refine br (fun hc1 => ?y1) (fun hc1 => ?n1)
 case' n1 =>
  first | refine x_ix (by first | exact wd_ix (i := 0) rfl (by omega) | exact wd_ix (i := 1) rfl (by omega) | exact wd_ix (i := 2) rfl (by omega) | exact wd_ix (i := 3) rfl (by omega) | exact wd_ix (i := 4) rfl (by omega) | exact wd_ix (i := 5) rfl (by omega)) ?_ | refine x_ixI (by first | exact wd_ix (i := 0) rfl (by omega) | exact wd_ix (i := 1) rfl (by omega) | exact wd_ix (i := 2) rfl (by omega) | exact wd_ix (i := 3) rfl (by omega) | exact wd_ix (i := 4) rfl (by omega) | exact wd_ix (i := 5) rfl (by omega)) ?_
  refine x_call T.en_102 (ref13Read_any (wd w 1) (Nat.le_trans (wd_few hw 1) (by decide))) ?_
  first | refine x_ix (by first | exact wd_ix (i := 0) rfl (by omega) | exact wd_ix (i := 1) rfl (by omega) | exact wd_ix (i := 2) rfl (by omega) | exact wd_ix (i := 3) rfl (by omega) | exact wd_ix (i := 4) rfl (by omega) | exact wd_ix (i := 5) rfl (by omega)) ?_ | refine x_ixI (by first | exact wd_ix (i := 0) rfl (by omega) | exact wd_ix (i := 1) rfl (by omega) | exact wd_ix (i := 2) rfl (by omega) | exact wd_ix (i := 3) rfl (by omega) | exact wd_ix (i := 4) rfl (by omega) | exact wd_ix (i := 5) rfl (by omega)) ?_
  refine br (fun hc2 => ?y2) (fun hc2 => ?n2)
  case' y2 =>
   refine x_len ?_
   refine br (fun hc3 => ?y3) (fun hc3 => ?n3)
   case' n3 =>
    first | refine x_ix (by first | exact wd_ix (i := 0) rfl (by omega) | exact wd_ix (i := 1) rfl (by omega) | exact wd_ix (i := 2) rfl (by omega) | exact wd_ix (i := 3) rfl (by omega) | exact wd_ix (i := 4) rfl (by omega) | exact wd_ix (i := 5) rfl (by omega)) ?_ | refine x_ixI (by first | exact wd_ix (i := 0) rfl (by omega) | exact wd_ix (i := 1) rfl (by omega) | exact wd_ix (i := 2) rfl (by omega) | exact wd_ix (i := 3) rfl (by omega) | exact wd_ix (i := 4) rfl (by omega) | exact wd_ix (i := 5) rfl (by omega)) ?_
    refine x_call T.en_103 (ref36Number_any (wd w 2) (Nat.le_trans (wd_few hw 2) (by decide))) ?_
    refine And.intro (fun hg4 => ?y4) (fun hg4 => ?n4)
    case' y4 =>
     refine And.intro ⟨T.mixed, by decide +kernel⟩ ?_
     refine And.intro (fun hg5 => ?y5) (fun hg5 => ?n5)
     case' y5 =>
      refine x_call T.en_24 (by first | exact refFieldRight_any ⟨atR w, 1, noB, [], (numW (wd w 2)).1⟩ (Nat.zero_le _) | exact refFieldRight_any ⟨atR w, 2, (quotedR (wd w 2)).1, [], 0⟩ (Nat.zero_le _) | exact refFieldRight_any ⟨atR w, 3, wd w 2, splitW 44 (wd w 3), 0⟩ (Nat.le_trans (splitW_few (wd_few hw 3)) (by decide)) | exact refFieldRight_any ⟨atR w, 4, noB, [], 0⟩ (Nat.zero_le _) | exact refFieldRight_any ⟨atR w, 0, noB, [], 0⟩ (Nat.zero_le _)) ?_
    case' n4 =>
     refine And.intro ⟨T.mixed, by decide +kernel⟩ ?_
     refine brF ?_
  case' n2 =>
   refine br (fun hc7 => ?y7) (fun hc7 => ?n7)
   case' y7 =>
    refine x_len ?_
    refine br (fun hc8 => ?y8) (fun hc8 => ?n8)
    case' n8 =>
     first | refine x_ix (by first | exact wd_ix (i := 0) rfl (by omega) | exact wd_ix (i := 1) rfl (by omega) | exact wd_ix (i := 2) rfl (by omega) | exact wd_ix (i := 3) rfl (by omega) | exact wd_ix (i := 4) rfl (by omega) | exact wd_ix (i := 5) rfl (by omega)) ?_ | refine x_ixI (by first | exact wd_ix (i := 0) rfl (by omega) | exact wd_ix (i := 1) rfl (by omega) | exact wd_ix (i := 2) rfl (by omega) | exact wd_ix (i := 3) rfl (by omega) | exact wd_ix (i := 4) rfl (by omega) | exact wd_ix (i := 5) rfl (by omega)) ?_
     refine x_call T.en_104 (refQuoted_any (wd w 2) (Nat.le_trans (wd_few hw 2) (by decide))) ?_
     refine And.intro (fun hg9 => ?y9) (fun hg9 => ?n9)
     case' y9 =>
      refine And.intro ⟨T.mixed, by decide +kernel⟩ ?_
      refine And.intro (fun hg10 => ?y10) (fun hg10 => ?n10)
      case' y10 =>
       refine x_call T.en_24 (by first | exact refFieldRight_any ⟨atR w, 1, noB, [], (numW (wd w 2)).1⟩ (Nat.zero_le _) | exact refFieldRight_any ⟨atR w, 2, (quotedR (wd w 2)).1, [], 0⟩ (Nat.zero_le _) | exact refFieldRight_any ⟨atR w, 3, wd w 2, splitW 44 (wd w 3), 0⟩ (Nat.le_trans (splitW_few (wd_few hw 3)) (by decide)) | exact refFieldRight_any ⟨atR w, 4, noB, [], 0⟩ (Nat.zero_le _) | exact refFieldRight_any ⟨atR w, 0, noB, [], 0⟩ (Nat.zero_le _)) ?_
     case' n9 =>
      refine And.intro ⟨T.mixed, by decide +kernel⟩ ?_
      refine brF ?_
   case' n7 =>
    refine br (fun hc12 => ?y12) (fun hc12 => ?n12)
    case' y12 =>
     refine x_len ?_
     refine br (fun hc13 => ?y13) (fun hc13 => ?n13)
     case' n13 =>
      first | refine x_ix (by first | exact wd_ix (i := 0) rfl (by omega) | exact wd_ix (i := 1) rfl (by omega) | exact wd_ix (i := 2) rfl (by omega) | exact wd_ix (i := 3) rfl (by omega) | exact wd_ix (i := 4) rfl (by omega) | exact wd_ix (i := 5) rfl (by omega)) ?_ | refine x_ixI (by first | exact wd_ix (i := 0) rfl (by omega) | exact wd_ix (i := 1) rfl (by omega) | exact wd_ix (i := 2) rfl (by omega) | exact wd_ix (i := 3) rfl (by omega) | exact wd_ix (i := 4) rfl (by omega) | exact wd_ix (i := 5) rfl (by omega)) ?_
      first | refine x_ix (by first | exact wd_ix (i := 0) rfl (by omega) | exact wd_ix (i := 1) rfl (by omega) | exact wd_ix (i := 2) rfl (by omega) | exact wd_ix (i := 3) rfl (by omega) | exact wd_ix (i := 4) rfl (by omega) | exact wd_ix (i := 5) rfl (by omega)) ?_ | refine x_ixI (by first | exact wd_ix (i := 0) rfl (by omega) | exact wd_ix (i := 1) rfl (by omega) | exact wd_ix (i := 2) rfl (by omega) | exact wd_ix (i := 3) rfl (by omega) | exact wd_ix (i := 4) rfl (by omega) | exact wd_ix (i := 5) rfl (by omega)) ?_
      refine x_call T.en_123 (refCut_any 44 (wd w 3) (Nat.le_trans (wd_few hw 3) (by decide))) ?_
      refine And.intro ⟨T.mixed, by decide +kernel⟩ ?_
      refine And.intro (fun hg14 => ?y14) (fun hg14 => ?n14)
      case' y14 =>
       refine x_call T.en_24 (by first | exact refFieldRight_any ⟨atR w, 1, noB, [], (numW (wd w 2)).1⟩ (Nat.zero_le _) | exact refFieldRight_any ⟨atR w, 2, (quotedR (wd w 2)).1, [], 0⟩ (Nat.zero_le _) | exact refFieldRight_any ⟨atR w, 3, wd w 2, splitW 44 (wd w 3), 0⟩ (Nat.le_trans (splitW_few (wd_few hw 3)) (by decide)) | exact refFieldRight_any ⟨atR w, 4, noB, [], 0⟩ (Nat.zero_le _) | exact refFieldRight_any ⟨atR w, 0, noB, [], 0⟩ (Nat.zero_le _)) ?_
    case' n12 =>
     refine br (fun hc15 => ?y15) (fun hc15 => ?n15)
     case' y15 =>
      refine And.intro (fun hg16 => ?y16) (fun hg16 => ?n16)
      case' y16 =>
       refine x_len ?_
       refine And.intro ⟨T.mixed, by decide +kernel⟩ ?_
       refine And.intro (fun hg17 => ?y17) (fun hg17 => ?n17)
       case' y17 =>
        have hl9 : w.length = 2 := by have := of_decide_eq_true hg17; omega
        refine x_call T.en_24 (by first | exact refFieldRight_any ⟨atR w, 1, noB, [], (numW (wd w 2)).1⟩ (Nat.zero_le _) | exact refFieldRight_any ⟨atR w, 2, (quotedR (wd w 2)).1, [], 0⟩ (Nat.zero_le _) | exact refFieldRight_any ⟨atR w, 3, wd w 2, splitW 44 (wd w 3), 0⟩ (Nat.le_trans (splitW_few (wd_few hw 3)) (by decide)) | exact refFieldRight_any ⟨atR w, 4, noB, [], 0⟩ (Nat.zero_le _) | exact refFieldRight_any ⟨atR w, 0, noB, [], 0⟩ (Nat.zero_le _)) ?_
       case' n17 =>
        have hl9 : ¬ w.length = 2 := by have := of_decide_eq_false hg17; omega
      case' n16 =>
       refine And.intro ⟨T.mixed, by decide +kernel⟩ ?_
       refine brF ?_
     case' n15 =>
      refine And.intro ⟨T.mixed, by decide +kernel⟩ ?_
      refine And.intro (fun hg19 => ?y19) (fun hg19 => ?n19)
      case' y19 =>
       refine x_call T.en_24 (by first | exact refFieldRight_any ⟨atR w, 1, noB, [], (numW (wd w 2)).1⟩ (Nat.zero_le _) | exact refFieldRight_any ⟨atR w, 2, (quotedR (wd w 2)).1, [], 0⟩ (Nat.zero_le _) | exact refFieldRight_any ⟨atR w, 3, wd w 2, splitW 44 (wd w 3), 0⟩ (Nat.le_trans (splitW_few (wd_few hw 3)) (by decide)) | exact refFieldRight_any ⟨atR w, 4, noB, [], 0⟩ (Nat.zero_le _) | exact refFieldRight_any ⟨atR w, 0, noB, [], 0⟩ (Nat.zero_le _)) ?_
 all_goals (refine x_ret ?_; simp only [fitsL, fits, C.asD, and_true] <;> (unfold parseRF; (repeat (first | rw [if_pos (by omega)] | rw [if_neg (by omega)] | rw [if_pos (by assumption)] | rw [if_neg (by assumption)])); first | (constructor <;> first | rfl | (simp_all; done)) | (simp_all; done)))

set_option maxHeartbeats 1000000 in
theorem ref36Table_any (s : ByteArray) (hs : s.size ≤ 900000) : Contract Tryz.prog 105 [.sc (.string (s))] [.d (.row ((tableR s).1.map pairD)), .d (.sc (.bool ((tableR s).2)))] := by
 refine T.fn [1034] Tryz.func105 ?_
 have hln := splitW_few (c := 44) hs
 refine x_call T.en_123 (by first | exact refCut_any 44 s (by omega) | exact refCut_any 62 p hps) ?_
 refine xloopR (fb := [1034]) T.ok (Nat.le_of_ble_eq_true rfl) [5] (fun (k : Nat) => [(6, .c (.d (.sc (.int .i64 (k : Nat))))), (4, .c (.own 8 131 ((tws (splitW 44 s) k).map pairD)))]) (fun k => k ≤ (splitW 44 s).length ∧ ∀ p ∈ (splitW 44 s).take k, (splitW 62 p).length = 2) (fun k => (splitW 44 s).length - k) 0 ⟨Nat.zero_le _, (by simp)⟩ (x_ent (by first | rfl | (simp only [Tr.get]; simp; done)) (x_ent (by first | rfl | (simp only [Tr.get]; simp; done)) trivial)) ?_
 rintro k ⟨hk, hi⟩
 refine x_len ?_
 refine br (fun hc1 => ?y1) (fun hc1 => ?n1)
 case' y1 =>
  obtain ⟨p, hp⟩ := elem_at hc1
  have hkl := lt_len hp
  have hps := Nat.le_trans (splitW_size (List.mem_of_getElem? hp)) (Nat.le_trans hs (by decide : _ ≤ 1000000))
  first | refine x_ix (by first | exact mapAt hp | exact wd_ix (i := 0) rfl (by omega) | exact wd_ix (i := 1) rfl (by omega)) ?_ | refine x_ixI (by first | exact mapAt hp | exact wd_ix (i := 0) rfl (by omega) | exact wd_ix (i := 1) rfl (by omega)) ?_
  refine x_call T.en_123 (by first | exact refCut_any 44 s (by omega) | exact refCut_any 62 p hps) ?_
  refine x_len ?_
  refine br (fun hc2 => ?y2) (fun hc2 => ?n2)
  case' y2 =>
   have hcc : ¬ (splitW 62 p).length = 2 := by omega
   have hP : tableR s = ([], false) := by unfold tableR; rw [if_neg]; rw [List.all_eq_true]; intro q; exact hcc (of_decide_eq_true (q p (List.mem_of_getElem? hp)))
  case' n2 =>
   have hcc : (splitW 62 p).length = 2 := by omega
   refine And.intro ⟨T.mixed, by decide +kernel⟩ ?_
   first | refine x_ix (by first | exact mapAt hp | exact wd_ix (i := 0) rfl (by omega) | exact wd_ix (i := 1) rfl (by omega)) ?_ | refine x_ixI (by first | exact mapAt hp | exact wd_ix (i := 0) rfl (by omega) | exact wd_ix (i := 1) rfl (by omega)) ?_
   first | refine x_ix (by first | exact mapAt hp | exact wd_ix (i := 0) rfl (by omega) | exact wd_ix (i := 1) rfl (by omega)) ?_ | refine x_ixI (by first | exact mapAt hp | exact wd_ix (i := 0) rfl (by omega) | exact wd_ix (i := 1) rfl (by omega)) ?_
   first | refine x_app ?_ (by first | exact strsl_wide _ | (intro x hx; rcases List.mem_singleton.1 hx with rfl; rfl)) (h1 := by unfold maxLen; ((try simp only [List.length_map, List.length_append, List.length_cons, List.length_nil, List.length_take, tws]); omega)) (h2 := by ((try simp only [List.length_map, List.length_append, List.length_cons, List.length_nil, List.length_take, tws]); omega)) | refine x_appN ?_ (by first | exact strsl_wide _ | (intro x hx; rcases List.mem_singleton.1 hx with rfl; rfl)) (h1 := by unfold maxLen; ((try simp only [List.length_map, List.length_append, List.length_cons, List.length_nil, List.length_take, tws]); omega)) (h2 := by ((try simp only [List.length_map, List.length_append, List.length_cons, List.length_nil, List.length_take, tws]); omega))
   first | refine x_inc ?_ (h := by ((try simp only [List.length_map, List.length_append, List.length_cons, List.length_nil, List.length_take, tws]); omega)) | refine x_add ?_ (h := by first | exact IntWalk.i64_in _ (by ((try simp only [List.length_map, List.length_append, List.length_cons, List.length_nil, List.length_take, tws]); omega)) | rfl) | refine x_bin rfl rfl ?_
   refine x_rnd (k + 1) ⟨lt_len hp, (take_all (Q := fun p => (splitW 62 p).length = 2) hi hp hcc)⟩ (by (try dsimp only); have := lt_len hp; omega) rfl (x_ent (by first | rfl | (simp only [Tr.get]; simp; done)) (x_ent (by simp only [Tr.get]; first | (rw [tws_take hp]; done) | (rw [tws_take hp]; rfl)) trivial)) rfl
 case' n1 =>
  have hend : (splitW 44 s).take k = (splitW 44 s) := List.take_of_length_le (past_end hc1)
  have hP : tableR s = ((splitW 44 s).map twoR, true) := by unfold tableR; rw [if_pos]; rw [List.all_eq_true]; rw [hend] at hi; exact fun p hp => decide_eq_true (hi p hp)
 all_goals (refine x_ret ?_; simp only [fitsL, fits, C.asD, and_true] <;> (rw [hP]; (try unfold tws; try rw [hend]); (first | (constructor <;> rfl) | rfl)))
end Go.Vm
end
section
namespace Go.Vm
open Go.RowKit Go.Proofs
set_option linter.unusedVariables false
set_option linter.unusedSimpArgs false
set_option maxRecDepth 10000

open Go.Proofs.YtmmffeldlhofiaaGreatDoor Punnet.Name Punnet.Num

def kTo (v : ByteArray) (k : Nat) : Int := if kindR v < (k : Int) then kindR v else 0
theorem kindR_dom {v : ByteArray} (h : ¬ kindR v = 0) : 1 ≤ kindR v ∧ kindR v ≤ 10 := by rcases kindR_cases v with k | k; exact absurd k h; exact ⟨k.1, k.2.1⟩
theorem kTo_one {v : ByteArray} : S.c (.d (.sc (.int .i64 0))) = S.c (.d (.sc (.int .i64 (kTo v 1)))) := by
  have e : kTo v 1 = 0 := by
    unfold kTo; split
    · rcases kindR_cases v with k | k
      · exact k
      · have := k.1; omega
    · rfl
  rw [e]
theorem kindR_verb {k : Nat} (h1 : 1 ≤ k) (h2 : k ≤ 10) : kindR (verbR k) = k := by
  rcases (by omega : k = 1 ∨ k = 2 ∨ k = 3 ∨ k = 4 ∨ k = 5 ∨ k = 6 ∨ k = 7 ∨ k = 8 ∨ k = 9 ∨ k = 10) with rfl | rfl | rfl | rfl | rfl | rfl | rfl | rfl | rfl | rfl <;> decide +kernel
theorem verbR_ne {k : Nat} (h1 : 1 ≤ k) (h2 : k ≤ 10) : ¬ noB = verbR k := fun e => by
  have h := kindR_verb h1 h2
  rw [← e, show kindR noB = 0 by decide +kernel] at h
  omega
theorem words_none {w : List ByteArray} (h : w.length = 0) : wd w 0 = noB := by rw [List.length_eq_zero_iff.1 h]; rfl
theorem words_pos {w : List ByteArray} (h : ¬ kindR (wd w 0) = 0) : 0 < w.length := by
  rcases Nat.eq_zero_or_pos w.length with k | k
  · rw [words_none k] at h; exact absurd (by decide +kernel) h
  · exact k
theorem kTo_hit {v : ByteArray} {k : Nat} (h1 : 1 ≤ k) (h2 : k ≤ 10) (hv : v = verbR k) : S.c (.d (.sc (.int .i64 (k : Int)))) = S.c (.d (.sc (.int .i64 (kTo v (k + 1))))) := by
  have e : kTo v (k + 1) = k := by unfold kTo; rw [hv, kindR_verb h1 h2, if_pos (by omega)]
  rw [e]
theorem kTo_miss {v : ByteArray} {k : Nat} (hv : ¬ v = verbR k) : S.c (.d (.sc (.int .i64 (kTo v k)))) = S.c (.d (.sc (.int .i64 (kTo v (k + 1))))) := by
  have e : kTo v (k + 1) = kTo v k := by
    have hn : ¬ kindR v = k ∨ kindR v = 0 := by
      rcases kindR_cases v with q | q
      · exact .inr q
      · exact .inl fun e => hv (by rw [← e]; exact q.2.2)
    unfold kTo
    by_cases h : kindR v < (k : Int)
    · rw [if_pos h, if_pos (by omega)]
    · rw [if_neg h]
      rcases hn with hn | hn
      · rw [if_neg (by omega)]
      · rw [hn]; split <;> rfl
  rw [e]
theorem kTo_end {v : ByteArray} {k : Nat} (h : 11 ≤ k) : kTo v k = kindR v := by
  unfold kTo
  rw [if_pos]
  rcases kindR_cases v with q | q
  · rw [q]; omega
  · have := q.2.1; omega
theorem verbs_at {k : Nat} (h1 : 1 ≤ k) (h2 : k < 11) : ([.sc (.string ⟨#[]⟩), .sc (.string ⟨#[114, 101, 110, 97, 109, 101]⟩), .sc (.string ⟨#[97, 100, 100]⟩), .sc (.string ⟨#[114, 101, 109, 111, 118, 101]⟩), .sc (.string ⟨#[104, 111, 105, 115, 116]⟩), .sc (.string ⟨#[112, 108, 117, 110, 103, 101]⟩), .sc (.string ⟨#[115, 112, 108, 105, 116]⟩), .sc (.string ⟨#[119, 114, 97, 112]⟩), .sc (.string ⟨#[99, 111, 110, 118, 101, 114, 116]⟩), .sc (.string ⟨#[109, 101, 114, 103, 101]⟩), .sc (.string ⟨#[117, 110, 119, 114, 97, 112]⟩)] : List D)[((k : Nat) : Int).toNat]? = some (.sc (.string (verbR k))) := by
  rcases (by omega : k = 1 ∨ k = 2 ∨ k = 3 ∨ k = 4 ∨ k = 5 ∨ k = 6 ∨ k = 7 ∨ k = 8 ∨ k = 9 ∨ k = 10) with rfl | rfl | rfl | rfl | rfl | rfl | rfl | rfl | rfl | rfl <;> rfl
theorem counts_at {k : Int} (h : 1 ≤ k ∧ k ≤ 10) : ([.sc (.int .i64 0), .sc (.int .i64 3), .sc (.int .i64 0), .sc (.int .i64 0), .sc (.int .i64 2), .sc (.int .i64 3), .sc (.int .i64 5), .sc (.int .i64 3), .sc (.int .i64 6), .sc (.int .i64 5), .sc (.int .i64 3)] : List D)[k.toNat]? = some (.sc (.int .i64 (wordsR k : Nat))) := by
  rcases (by omega : k = 1 ∨ k = 2 ∨ k = 3 ∨ k = 4 ∨ k = 5 ∨ k = 6 ∨ k = 7 ∨ k = 8 ∨ k = 9 ∨ k = 10) with rfl | rfl | rfl | rfl | rfl | rfl | rfl | rfl | rfl | rfl <;> rfl
theorem kindR_or {v : ByteArray} (h : ¬ kindR v = 0) (h2 : ¬ (kindR v = 2 ∨ kindR v = 3)) : kindR v = 1 ∨ kindR v = 4 ∨ kindR v = 5 ∨ kindR v = 6 ∨ kindR v = 7 ∨ kindR v = 8 ∨ kindR v = 9 ∨ kindR v = 10 := by have := kindR_dom h; omega
theorem or8 {a b c d e f g h p : Prop} (x : a ∨ b ∨ c ∨ d ∨ e ∨ f ∨ g ∨ h) (k1 : a → p) (k2 : b → p) (k3 : c → p) (k4 : d → p) (k5 : e → p) (k6 : f → p) (k7 : g → p) (k8 : h → p) : p := by
  rcases x with x | x | x | x | x | x | x | x
  · exact k1 x
  · exact k2 x
  · exact k3 x
  · exact k4 x
  · exact k5 x
  · exact k6 x
  · exact k7 x
  · exact k8 x
theorem tableR_len (s : ByteArray) : (tableR s).1.length ≤ (splitW 44 s).length := by
  unfold tableR; split
  · simp
  · exact Nat.zero_le _
theorem partsR_ok {k : Int} {w : List ByteArray} (hw : ∀ a ∈ w, a.size ≤ 900) : okX (partsR k w) := by
  have h4 := Nat.le_trans (tableR_len (wd w 4)) (splitW_few (wd_few hw 4))
  have h5 := Nat.le_trans (tableR_len (wd w 5)) (splitW_few (wd_few hw 5))
  refine ⟨Nat.zero_le _, ?_, ?_⟩
  · unfold partsR; dsimp only; split
    · omega
    · exact Nat.zero_le _
  · unfold partsR; dsimp only; split
    · omega
    · exact Nat.zero_le _

set_option maxHeartbeats 1000000 in
theorem ref36ParseLens_any (w : List ByteArray) (hwl : w.length ≤ 1000000) (hw : ∀ a ∈ w, a.size ≤ 900) : Contract Tryz.prog 57 [.row (w.map strD)] [.d (lD (parseRL w).1), .d (.sc (.bool ((parseRL w).2)))] := by
 refine T.fn [] Tryz.func57 ?_
 have hw9 : ∀ a ∈ w, a.size ≤ 900000 := fun a ha => Nat.le_trans (hw a ha) (by decide)
 refine xloopR (fb := []) T.ok (Nat.le_of_ble_eq_true rfl) [0, 2, 4, 5] (fun (k : Nat) => [(7, .c (.d (.sc (.int .i64 (k : Nat))))), (6, .c (.d (.sc (.int .i64 (kTo (wd w 0) k)))))]) (fun k => 1 ≤ k ∧ k ≤ 11) (fun k => 11 - k) 1 ⟨by decide, by decide⟩ (x_ent (by first | rfl | (simp only [Tr.get]; simp; done)) (x_ent (by simp only [Tr.get]; exact kTo_one) trivial)) ?_
 rintro k ⟨hk, hi⟩
 refine x_len ?_
 refine br (fun hc1 => ?y1) (fun hc1 => ?n1)
 case' y1 =>
  have hk11 : k < 11 := by have h9 : (k : Int) < 11 := hc1; omega
  refine And.intro ⟨T.mixed, by decide +kernel⟩ ?_
  refine x_len ?_
  refine br (fun hg2 => ?y2) (fun hg2 => ?n2)
  case' y2 =>
   first | refine x_ix (by first | exact verbs_at (by omega) (by omega) | exact counts_at hkd | exact wd_ix (i := 0) rfl (by first | omega) | exact wd_ix (i := 1) rfl (by first | omega) | exact wd_ix (i := 2) rfl (by first | omega) | exact wd_ix (i := 3) rfl (by first | omega) | exact wd_ix (i := 4) rfl (by first | omega) | exact wd_ix (i := 5) rfl (by first | omega)) ?_ | refine x_ixI (by first | exact verbs_at (by omega) (by omega) | exact counts_at hkd | exact wd_ix (i := 0) rfl (by first | omega) | exact wd_ix (i := 1) rfl (by first | omega) | exact wd_ix (i := 2) rfl (by first | omega) | exact wd_ix (i := 3) rfl (by first | omega) | exact wd_ix (i := 4) rfl (by first | omega) | exact wd_ix (i := 5) rfl (by first | omega)) ?_
   first | refine x_ix (by first | exact verbs_at (by omega) (by omega) | exact counts_at hkd | exact wd_ix (i := 0) rfl (by first | omega) | exact wd_ix (i := 1) rfl (by first | omega) | exact wd_ix (i := 2) rfl (by first | omega) | exact wd_ix (i := 3) rfl (by first | omega) | exact wd_ix (i := 4) rfl (by first | omega) | exact wd_ix (i := 5) rfl (by first | omega)) ?_ | refine x_ixI (by first | exact verbs_at (by omega) (by omega) | exact counts_at hkd | exact wd_ix (i := 0) rfl (by first | omega) | exact wd_ix (i := 1) rfl (by first | omega) | exact wd_ix (i := 2) rfl (by first | omega) | exact wd_ix (i := 3) rfl (by first | omega) | exact wd_ix (i := 4) rfl (by first | omega) | exact wd_ix (i := 5) rfl (by first | omega)) ?_
   refine br (fun hc3 => ?y3) (fun hc3 => ?n3)
   case' y3 =>
    have hv : wd w 0 = verbR k := hc3
    first | refine x_inc ?_ (h := by ((try simp only [List.length_map]); omega)) | refine x_add ?_ (h := by first | exact IntWalk.i64_in _ (by ((try simp only [List.length_map]); omega)) | rfl) | refine x_bin rfl rfl ?_
    refine x_rnd (k + 1) ⟨by omega, by omega⟩ (by (try dsimp only); omega) rfl (x_ent (by first | rfl | (simp only [Tr.get]; simp; done)) (x_ent (by simp only [Tr.get]; first | exact kTo_hit hk (by omega) hv | exact kTo_miss hv) trivial)) rfl
   case' n3 =>
    have hv : ¬ wd w 0 = verbR k := hc3
    first | refine x_inc ?_ (h := by ((try simp only [List.length_map]); omega)) | refine x_add ?_ (h := by first | exact IntWalk.i64_in _ (by ((try simp only [List.length_map]); omega)) | rfl) | refine x_bin rfl rfl ?_
    refine x_rnd (k + 1) ⟨by omega, by omega⟩ (by (try dsimp only); omega) rfl (x_ent (by first | rfl | (simp only [Tr.get]; simp; done)) (x_ent (by simp only [Tr.get]; first | exact kTo_hit hk (by omega) hv | exact kTo_miss hv) trivial)) rfl
  case' n2 =>
   have hv : ¬ wd w 0 = verbR k := by rw [words_none (by omega)]; exact verbR_ne hk (by omega)
   refine brF ?_
   first | refine x_inc ?_ (h := by ((try simp only [List.length_map]); omega)) | refine x_add ?_ (h := by first | exact IntWalk.i64_in _ (by ((try simp only [List.length_map]); omega)) | rfl) | refine x_bin rfl rfl ?_
   refine x_rnd (k + 1) ⟨by omega, by omega⟩ (by (try dsimp only); omega) rfl (x_ent (by first | rfl | (simp only [Tr.get]; simp; done)) (x_ent (by simp only [Tr.get]; first | exact kTo_hit hk (by omega) hv | exact kTo_miss hv) trivial)) rfl
 case' n1 =>
  have hkk : kTo (wd w 0) k = kindR (wd w 0) := kTo_end (by have h9 : ¬ (k : Int) < 11 := hc1; omega)
  rw [hkk]
  refine br (fun hc5 => ?y5) (fun hc5 => ?n5)
  case' y5 =>
   have hk0 : (kindR (wd w 0)) = 0 := hc5
   have hP : parseRL w = (noLens, false) := by unfold parseRL; rw [if_pos hk0]
  case' n5 =>
   have hk0 : ¬ (kindR (wd w 0)) = 0 := hc5
   have hkd := kindR_dom hk0
   have hwp := words_pos hk0
   refine br (fun hg6 => ?y6) (fun hg6 => ?n6)
   case' y6 =>
    have hk2 : (kindR (wd w 0)) = 2 ∨ (kindR (wd w 0)) = 3 := .inl hg6
    have hP : parseRL w = (⟨(kindR (wd w 0)), noRef, noB, noB, 0, (parseRF (w.drop 1)).1, [], []⟩, (parseRF (w.drop 1)).2) := by unfold parseRL; rw [if_neg hk0, if_pos hk2]
    refine brT ?_
    first | refine x_bnd ?_ | refine x_bndI ?_
    refine x_row ?_ (by first | exact str1_wide | exact strsl_wide _ | (intro x hx; cases hx)) (h1 := by ((try simp only [List.length_map]); omega)) (h2 := by ((try simp only [List.length_map]); omega)) (hy := by first | exact words_tl | exact rfl | rfl)
    refine x_call T.en_78 (ref36ParseField_any (w.drop 1) (fun a ha => hw9 a (List.mem_of_mem_drop ha))) ?_
   case' n6 =>
    refine br (fun hc8 => ?y8) (fun hc8 => ?n8)
    case' y8 =>
     have hk2 : (kindR (wd w 0)) = 2 ∨ (kindR (wd w 0)) = 3 := .inr hc8
     have hP : parseRL w = (⟨(kindR (wd w 0)), noRef, noB, noB, 0, (parseRF (w.drop 1)).1, [], []⟩, (parseRF (w.drop 1)).2) := by unfold parseRL; rw [if_neg hk0, if_pos hk2]
     first | refine x_bnd ?_ | refine x_bndI ?_
     refine x_row ?_ (by first | exact str1_wide | exact strsl_wide _ | (intro x hx; cases hx)) (h1 := by ((try simp only [List.length_map]); omega)) (h2 := by ((try simp only [List.length_map]); omega)) (hy := by first | exact words_tl | exact rfl | rfl)
     refine x_call T.en_78 (ref36ParseField_any (w.drop 1) (fun a ha => hw9 a (List.mem_of_mem_drop ha))) ?_
    case' n8 =>
     have hk2 : ¬ ((kindR (wd w 0)) = 2 ∨ (kindR (wd w 0)) = 3) := by omega
     refine x_len ?_
     first | refine x_ix (by first | exact verbs_at (by omega) (by omega) | exact counts_at hkd | exact wd_ix (i := 0) rfl (by first | omega) | exact wd_ix (i := 1) rfl (by first | omega) | exact wd_ix (i := 2) rfl (by first | omega) | exact wd_ix (i := 3) rfl (by first | omega) | exact wd_ix (i := 4) rfl (by first | omega) | exact wd_ix (i := 5) rfl (by first | omega)) ?_ | refine x_ixI (by first | exact verbs_at (by omega) (by omega) | exact counts_at hkd | exact wd_ix (i := 0) rfl (by first | omega) | exact wd_ix (i := 1) rfl (by first | omega) | exact wd_ix (i := 2) rfl (by first | omega) | exact wd_ix (i := 3) rfl (by first | omega) | exact wd_ix (i := 4) rfl (by first | omega) | exact wd_ix (i := 5) rfl (by first | omega)) ?_
     refine br (fun hc9 => ?y9) (fun hc9 => ?n9)
     case' y9 =>
      have hlk : ¬ w.length = wordsR (kindR (wd w 0)) := by omega
      have hP : parseRL w = (⟨(kindR (wd w 0)), noRef, noB, noB, 0, noField, [], []⟩, false) := by unfold parseRL; rw [if_neg hk0, if_neg hk2, if_pos hlk]
     case' n9 =>
      have hlk : w.length = wordsR (kindR (wd w 0)) := by omega
      refine or8 (kindR_or hk0 hk2) (fun e => ?s2_0) (fun e => ?s2_1) (fun e => ?s2_2) (fun e => ?s2_3) (fun e => ?s2_4) (fun e => ?s2_5) (fun e => ?s2_6) (fun e => ?s2_7)
      case' s2_0 =>
       rw [e] at hlk
       have hlen : w.length = 3 := hlk
       rw [e]
       have hP : parseRL w = (partsR 1 w, ((placeOf (wd w 1)).isSome && true) && rightL (partsR 1 w)) := by unfold parseRL; rw [e, if_neg (by decide), if_neg (by decide), if_neg (fun q => q hlen)]; rfl
       first | refine x_ix (by first | exact verbs_at (by omega) (by omega) | exact counts_at hkd | exact wd_ix (i := 0) rfl (by first | omega) | exact wd_ix (i := 1) rfl (by first | omega) | exact wd_ix (i := 2) rfl (by first | omega) | exact wd_ix (i := 3) rfl (by first | omega) | exact wd_ix (i := 4) rfl (by first | omega) | exact wd_ix (i := 5) rfl (by first | omega)) ?_ | refine x_ixI (by first | exact verbs_at (by omega) (by omega) | exact counts_at hkd | exact wd_ix (i := 0) rfl (by first | omega) | exact wd_ix (i := 1) rfl (by first | omega) | exact wd_ix (i := 2) rfl (by first | omega) | exact wd_ix (i := 3) rfl (by first | omega) | exact wd_ix (i := 4) rfl (by first | omega) | exact wd_ix (i := 5) rfl (by first | omega)) ?_
       refine x_call T.en_102 (ref13Read_any (wd w 1) (Nat.le_trans (wd_few hw 1) (by decide))) ?_
       refine brT ?_
       refine brT ?_
       refine brT ?_
       refine brT ?_
       refine brT ?_
       first | refine x_ix (by first | exact verbs_at (by omega) (by omega) | exact counts_at hkd | exact wd_ix (i := 0) rfl (by first | omega) | exact wd_ix (i := 1) rfl (by first | omega) | exact wd_ix (i := 2) rfl (by first | omega) | exact wd_ix (i := 3) rfl (by first | omega) | exact wd_ix (i := 4) rfl (by first | omega) | exact wd_ix (i := 5) rfl (by first | omega)) ?_ | refine x_ixI (by first | exact verbs_at (by omega) (by omega) | exact counts_at hkd | exact wd_ix (i := 0) rfl (by first | omega) | exact wd_ix (i := 1) rfl (by first | omega) | exact wd_ix (i := 2) rfl (by first | omega) | exact wd_ix (i := 3) rfl (by first | omega) | exact wd_ix (i := 4) rfl (by first | omega) | exact wd_ix (i := 5) rfl (by first | omega)) ?_
       refine brF ?_
       refine brF ?_
       refine brF ?_
       refine brF ?_
       refine brF ?_
       refine brF ?_
       refine brF ?_
       refine brF ?_
       refine And.intro ⟨T.mixed, by decide +kernel⟩ ?_
       refine And.intro (fun hg23 => ?y23) (fun hg23 => ?n23)
       case' y23 =>
        rw [hg23] at hP
        refine brT ?_
        refine brT ?_
        refine x_call T.en_17 (by first | exact refLensRight_any (partsR 1 w) (partsR_ok hw) | exact refLensRight_any (partsR 4 w) (partsR_ok hw) | exact refLensRight_any (partsR 5 w) (partsR_ok hw) | exact refLensRight_any (partsR 6 w) (partsR_ok hw) | exact refLensRight_any (partsR 7 w) (partsR_ok hw) | exact refLensRight_any (partsR 8 w) (partsR_ok hw) | exact refLensRight_any (partsR 9 w) (partsR_ok hw) | exact refLensRight_any (partsR 10 w) (partsR_ok hw)) ?_
       case' n23 =>
        rw [hg23] at hP
        refine brF ?_
        refine brF ?_
      case' s2_1 =>
       rw [e] at hlk
       have hlen : w.length = 2 := hlk
       rw [e]
       have hP : parseRL w = (partsR 4 w, ((placeOf (wd w 1)).isSome && true) && rightL (partsR 4 w)) := by unfold parseRL; rw [e, if_neg (by decide), if_neg (by decide), if_neg (fun q => q hlen)]; rfl
       first | refine x_ix (by first | exact verbs_at (by omega) (by omega) | exact counts_at hkd | exact wd_ix (i := 0) rfl (by first | omega) | exact wd_ix (i := 1) rfl (by first | omega) | exact wd_ix (i := 2) rfl (by first | omega) | exact wd_ix (i := 3) rfl (by first | omega) | exact wd_ix (i := 4) rfl (by first | omega) | exact wd_ix (i := 5) rfl (by first | omega)) ?_ | refine x_ixI (by first | exact verbs_at (by omega) (by omega) | exact counts_at hkd | exact wd_ix (i := 0) rfl (by first | omega) | exact wd_ix (i := 1) rfl (by first | omega) | exact wd_ix (i := 2) rfl (by first | omega) | exact wd_ix (i := 3) rfl (by first | omega) | exact wd_ix (i := 4) rfl (by first | omega) | exact wd_ix (i := 5) rfl (by first | omega)) ?_
       refine x_call T.en_102 (ref13Read_any (wd w 1) (Nat.le_trans (wd_few hw 1) (by decide))) ?_
       refine brF ?_
       refine brF ?_
       refine brF ?_
       refine brF ?_
       refine brF ?_
       refine brF ?_
       refine brF ?_
       refine brF ?_
       refine brF ?_
       refine brF ?_
       refine brF ?_
       refine brF ?_
       refine brF ?_
       refine And.intro ⟨T.mixed, by decide +kernel⟩ ?_
       refine And.intro (fun hg41 => ?y41) (fun hg41 => ?n41)
       case' y41 =>
        rw [hg41] at hP
        refine brT ?_
        refine brT ?_
        refine x_call T.en_17 (by first | exact refLensRight_any (partsR 1 w) (partsR_ok hw) | exact refLensRight_any (partsR 4 w) (partsR_ok hw) | exact refLensRight_any (partsR 5 w) (partsR_ok hw) | exact refLensRight_any (partsR 6 w) (partsR_ok hw) | exact refLensRight_any (partsR 7 w) (partsR_ok hw) | exact refLensRight_any (partsR 8 w) (partsR_ok hw) | exact refLensRight_any (partsR 9 w) (partsR_ok hw) | exact refLensRight_any (partsR 10 w) (partsR_ok hw)) ?_
       case' n41 =>
        rw [hg41] at hP
        refine brF ?_
        refine brF ?_
      case' s2_2 =>
       rw [e] at hlk
       have hlen : w.length = 3 := hlk
       rw [e]
       have hP : parseRL w = (partsR 5 w, ((placeOf (wd w 1)).isSome && true) && rightL (partsR 5 w)) := by unfold parseRL; rw [e, if_neg (by decide), if_neg (by decide), if_neg (fun q => q hlen)]; rfl
       first | refine x_ix (by first | exact verbs_at (by omega) (by omega) | exact counts_at hkd | exact wd_ix (i := 0) rfl (by first | omega) | exact wd_ix (i := 1) rfl (by first | omega) | exact wd_ix (i := 2) rfl (by first | omega) | exact wd_ix (i := 3) rfl (by first | omega) | exact wd_ix (i := 4) rfl (by first | omega) | exact wd_ix (i := 5) rfl (by first | omega)) ?_ | refine x_ixI (by first | exact verbs_at (by omega) (by omega) | exact counts_at hkd | exact wd_ix (i := 0) rfl (by first | omega) | exact wd_ix (i := 1) rfl (by first | omega) | exact wd_ix (i := 2) rfl (by first | omega) | exact wd_ix (i := 3) rfl (by first | omega) | exact wd_ix (i := 4) rfl (by first | omega) | exact wd_ix (i := 5) rfl (by first | omega)) ?_
       refine x_call T.en_102 (ref13Read_any (wd w 1) (Nat.le_trans (wd_few hw 1) (by decide))) ?_
       refine brF ?_
       refine brT ?_
       refine brT ?_
       refine brT ?_
       refine brT ?_
       first | refine x_ix (by first | exact verbs_at (by omega) (by omega) | exact counts_at hkd | exact wd_ix (i := 0) rfl (by first | omega) | exact wd_ix (i := 1) rfl (by first | omega) | exact wd_ix (i := 2) rfl (by first | omega) | exact wd_ix (i := 3) rfl (by first | omega) | exact wd_ix (i := 4) rfl (by first | omega) | exact wd_ix (i := 5) rfl (by first | omega)) ?_ | refine x_ixI (by first | exact verbs_at (by omega) (by omega) | exact counts_at hkd | exact wd_ix (i := 0) rfl (by first | omega) | exact wd_ix (i := 1) rfl (by first | omega) | exact wd_ix (i := 2) rfl (by first | omega) | exact wd_ix (i := 3) rfl (by first | omega) | exact wd_ix (i := 4) rfl (by first | omega) | exact wd_ix (i := 5) rfl (by first | omega)) ?_
       refine brF ?_
       refine brF ?_
       refine brF ?_
       refine brF ?_
       refine brF ?_
       refine brF ?_
       refine brF ?_
       refine brF ?_
       refine And.intro ⟨T.mixed, by decide +kernel⟩ ?_
       refine And.intro (fun hg59 => ?y59) (fun hg59 => ?n59)
       case' y59 =>
        rw [hg59] at hP
        refine brT ?_
        refine brT ?_
        refine x_call T.en_17 (by first | exact refLensRight_any (partsR 1 w) (partsR_ok hw) | exact refLensRight_any (partsR 4 w) (partsR_ok hw) | exact refLensRight_any (partsR 5 w) (partsR_ok hw) | exact refLensRight_any (partsR 6 w) (partsR_ok hw) | exact refLensRight_any (partsR 7 w) (partsR_ok hw) | exact refLensRight_any (partsR 8 w) (partsR_ok hw) | exact refLensRight_any (partsR 9 w) (partsR_ok hw) | exact refLensRight_any (partsR 10 w) (partsR_ok hw)) ?_
       case' n59 =>
        rw [hg59] at hP
        refine brF ?_
        refine brF ?_
      case' s2_3 =>
       rw [e] at hlk
       have hlen : w.length = 5 := hlk
       rw [e]
       have hP : parseRL w = (partsR 6 w, ((placeOf (wd w 1)).isSome && decide ((numW (wd w 4)).2 = 0)) && rightL (partsR 6 w)) := by unfold parseRL; rw [e, if_neg (by decide), if_neg (by decide), if_neg (fun q => q hlen)]; rfl
       first | refine x_ix (by first | exact verbs_at (by omega) (by omega) | exact counts_at hkd | exact wd_ix (i := 0) rfl (by first | omega) | exact wd_ix (i := 1) rfl (by first | omega) | exact wd_ix (i := 2) rfl (by first | omega) | exact wd_ix (i := 3) rfl (by first | omega) | exact wd_ix (i := 4) rfl (by first | omega) | exact wd_ix (i := 5) rfl (by first | omega)) ?_ | refine x_ixI (by first | exact verbs_at (by omega) (by omega) | exact counts_at hkd | exact wd_ix (i := 0) rfl (by first | omega) | exact wd_ix (i := 1) rfl (by first | omega) | exact wd_ix (i := 2) rfl (by first | omega) | exact wd_ix (i := 3) rfl (by first | omega) | exact wd_ix (i := 4) rfl (by first | omega) | exact wd_ix (i := 5) rfl (by first | omega)) ?_
       refine x_call T.en_102 (ref13Read_any (wd w 1) (Nat.le_trans (wd_few hw 1) (by decide))) ?_
       refine brF ?_
       refine brF ?_
       refine brT ?_
       refine brT ?_
       refine brT ?_
       first | refine x_ix (by first | exact verbs_at (by omega) (by omega) | exact counts_at hkd | exact wd_ix (i := 0) rfl (by first | omega) | exact wd_ix (i := 1) rfl (by first | omega) | exact wd_ix (i := 2) rfl (by first | omega) | exact wd_ix (i := 3) rfl (by first | omega) | exact wd_ix (i := 4) rfl (by first | omega) | exact wd_ix (i := 5) rfl (by first | omega)) ?_ | refine x_ixI (by first | exact verbs_at (by omega) (by omega) | exact counts_at hkd | exact wd_ix (i := 0) rfl (by first | omega) | exact wd_ix (i := 1) rfl (by first | omega) | exact wd_ix (i := 2) rfl (by first | omega) | exact wd_ix (i := 3) rfl (by first | omega) | exact wd_ix (i := 4) rfl (by first | omega) | exact wd_ix (i := 5) rfl (by first | omega)) ?_
       refine brT ?_
       refine brT ?_
       refine brT ?_
       first | refine x_ix (by first | exact verbs_at (by omega) (by omega) | exact counts_at hkd | exact wd_ix (i := 0) rfl (by first | omega) | exact wd_ix (i := 1) rfl (by first | omega) | exact wd_ix (i := 2) rfl (by first | omega) | exact wd_ix (i := 3) rfl (by first | omega) | exact wd_ix (i := 4) rfl (by first | omega) | exact wd_ix (i := 5) rfl (by first | omega)) ?_ | refine x_ixI (by first | exact verbs_at (by omega) (by omega) | exact counts_at hkd | exact wd_ix (i := 0) rfl (by first | omega) | exact wd_ix (i := 1) rfl (by first | omega) | exact wd_ix (i := 2) rfl (by first | omega) | exact wd_ix (i := 3) rfl (by first | omega) | exact wd_ix (i := 4) rfl (by first | omega) | exact wd_ix (i := 5) rfl (by first | omega)) ?_
       refine brT ?_
       refine brT ?_
       first | refine x_ix (by first | exact verbs_at (by omega) (by omega) | exact counts_at hkd | exact wd_ix (i := 0) rfl (by first | omega) | exact wd_ix (i := 1) rfl (by first | omega) | exact wd_ix (i := 2) rfl (by first | omega) | exact wd_ix (i := 3) rfl (by first | omega) | exact wd_ix (i := 4) rfl (by first | omega) | exact wd_ix (i := 5) rfl (by first | omega)) ?_ | refine x_ixI (by first | exact verbs_at (by omega) (by omega) | exact counts_at hkd | exact wd_ix (i := 0) rfl (by first | omega) | exact wd_ix (i := 1) rfl (by first | omega) | exact wd_ix (i := 2) rfl (by first | omega) | exact wd_ix (i := 3) rfl (by first | omega) | exact wd_ix (i := 4) rfl (by first | omega) | exact wd_ix (i := 5) rfl (by first | omega)) ?_
       refine x_call T.en_103 (ref36Number_any (wd w 4) (Nat.le_trans (wd_few hw 4) (by decide))) ?_
       refine brF ?_
       refine brF ?_
       refine brF ?_
       refine And.intro ⟨T.mixed, by decide +kernel⟩ ?_
       refine And.intro (fun hg77 => ?y77) (fun hg77 => ?n77)
       case' y77 =>
        rw [hg77] at hP
        refine And.intro (fun hg78 => ?y78) (fun hg78 => ?n78)
        case' y78 =>
         rw [hg78] at hP
         refine brT ?_
         refine x_call T.en_17 (by first | exact refLensRight_any (partsR 1 w) (partsR_ok hw) | exact refLensRight_any (partsR 4 w) (partsR_ok hw) | exact refLensRight_any (partsR 5 w) (partsR_ok hw) | exact refLensRight_any (partsR 6 w) (partsR_ok hw) | exact refLensRight_any (partsR 7 w) (partsR_ok hw) | exact refLensRight_any (partsR 8 w) (partsR_ok hw) | exact refLensRight_any (partsR 9 w) (partsR_ok hw) | exact refLensRight_any (partsR 10 w) (partsR_ok hw)) ?_
        case' n78 =>
         rw [hg78] at hP
         refine brF ?_
       case' n77 =>
        rw [hg77] at hP
        refine brF ?_
        refine brF ?_
      case' s2_4 =>
       rw [e] at hlk
       have hlen : w.length = 3 := hlk
       rw [e]
       have hP : parseRL w = (partsR 7 w, ((placeOf (wd w 1)).isSome && (quotedR (wd w 2)).2) && rightL (partsR 7 w)) := by unfold parseRL; rw [e, if_neg (by decide), if_neg (by decide), if_neg (fun q => q hlen)]; rfl
       first | refine x_ix (by first | exact verbs_at (by omega) (by omega) | exact counts_at hkd | exact wd_ix (i := 0) rfl (by first | omega) | exact wd_ix (i := 1) rfl (by first | omega) | exact wd_ix (i := 2) rfl (by first | omega) | exact wd_ix (i := 3) rfl (by first | omega) | exact wd_ix (i := 4) rfl (by first | omega) | exact wd_ix (i := 5) rfl (by first | omega)) ?_ | refine x_ixI (by first | exact verbs_at (by omega) (by omega) | exact counts_at hkd | exact wd_ix (i := 0) rfl (by first | omega) | exact wd_ix (i := 1) rfl (by first | omega) | exact wd_ix (i := 2) rfl (by first | omega) | exact wd_ix (i := 3) rfl (by first | omega) | exact wd_ix (i := 4) rfl (by first | omega) | exact wd_ix (i := 5) rfl (by first | omega)) ?_
       refine x_call T.en_102 (ref13Read_any (wd w 1) (Nat.le_trans (wd_few hw 1) (by decide))) ?_
       refine brF ?_
       refine brF ?_
       refine brF ?_
       refine brF ?_
       refine brF ?_
       refine brF ?_
       refine brF ?_
       refine brF ?_
       refine brF ?_
       refine brF ?_
       refine brT ?_
       refine brT ?_
       first | refine x_ix (by first | exact verbs_at (by omega) (by omega) | exact counts_at hkd | exact wd_ix (i := 0) rfl (by first | omega) | exact wd_ix (i := 1) rfl (by first | omega) | exact wd_ix (i := 2) rfl (by first | omega) | exact wd_ix (i := 3) rfl (by first | omega) | exact wd_ix (i := 4) rfl (by first | omega) | exact wd_ix (i := 5) rfl (by first | omega)) ?_ | refine x_ixI (by first | exact verbs_at (by omega) (by omega) | exact counts_at hkd | exact wd_ix (i := 0) rfl (by first | omega) | exact wd_ix (i := 1) rfl (by first | omega) | exact wd_ix (i := 2) rfl (by first | omega) | exact wd_ix (i := 3) rfl (by first | omega) | exact wd_ix (i := 4) rfl (by first | omega) | exact wd_ix (i := 5) rfl (by first | omega)) ?_
       refine x_call T.en_104 (refQuoted_any (wd w 2) (Nat.le_trans (wd_few hw 2) (by decide))) ?_
       refine brF ?_
       refine And.intro ⟨T.mixed, by decide +kernel⟩ ?_
       refine And.intro (fun hg96 => ?y96) (fun hg96 => ?n96)
       case' y96 =>
        rw [hg96] at hP
        refine And.intro (fun hg97 => ?y97) (fun hg97 => ?n97)
        case' y97 =>
         rw [hg97] at hP
         refine brT ?_
         refine x_call T.en_17 (by first | exact refLensRight_any (partsR 1 w) (partsR_ok hw) | exact refLensRight_any (partsR 4 w) (partsR_ok hw) | exact refLensRight_any (partsR 5 w) (partsR_ok hw) | exact refLensRight_any (partsR 6 w) (partsR_ok hw) | exact refLensRight_any (partsR 7 w) (partsR_ok hw) | exact refLensRight_any (partsR 8 w) (partsR_ok hw) | exact refLensRight_any (partsR 9 w) (partsR_ok hw) | exact refLensRight_any (partsR 10 w) (partsR_ok hw)) ?_
        case' n97 =>
         rw [hg97] at hP
         refine brF ?_
       case' n96 =>
        rw [hg96] at hP
        refine brF ?_
        refine brF ?_
      case' s2_5 =>
       rw [e] at hlk
       have hlen : w.length = 6 := hlk
       rw [e]
       have hP : parseRL w = (partsR 8 w, ((placeOf (wd w 1)).isSome && ((tableR (wd w 4)).2 && (tableR (wd w 5)).2)) && rightL (partsR 8 w)) := by unfold parseRL; rw [e, if_neg (by decide), if_neg (by decide), if_neg (fun q => q hlen)]; rfl
       first | refine x_ix (by first | exact verbs_at (by omega) (by omega) | exact counts_at hkd | exact wd_ix (i := 0) rfl (by first | omega) | exact wd_ix (i := 1) rfl (by first | omega) | exact wd_ix (i := 2) rfl (by first | omega) | exact wd_ix (i := 3) rfl (by first | omega) | exact wd_ix (i := 4) rfl (by first | omega) | exact wd_ix (i := 5) rfl (by first | omega)) ?_ | refine x_ixI (by first | exact verbs_at (by omega) (by omega) | exact counts_at hkd | exact wd_ix (i := 0) rfl (by first | omega) | exact wd_ix (i := 1) rfl (by first | omega) | exact wd_ix (i := 2) rfl (by first | omega) | exact wd_ix (i := 3) rfl (by first | omega) | exact wd_ix (i := 4) rfl (by first | omega) | exact wd_ix (i := 5) rfl (by first | omega)) ?_
       refine x_call T.en_102 (ref13Read_any (wd w 1) (Nat.le_trans (wd_few hw 1) (by decide))) ?_
       refine brF ?_
       refine brF ?_
       refine brF ?_
       refine brT ?_
       refine brT ?_
       first | refine x_ix (by first | exact verbs_at (by omega) (by omega) | exact counts_at hkd | exact wd_ix (i := 0) rfl (by first | omega) | exact wd_ix (i := 1) rfl (by first | omega) | exact wd_ix (i := 2) rfl (by first | omega) | exact wd_ix (i := 3) rfl (by first | omega) | exact wd_ix (i := 4) rfl (by first | omega) | exact wd_ix (i := 5) rfl (by first | omega)) ?_ | refine x_ixI (by first | exact verbs_at (by omega) (by omega) | exact counts_at hkd | exact wd_ix (i := 0) rfl (by first | omega) | exact wd_ix (i := 1) rfl (by first | omega) | exact wd_ix (i := 2) rfl (by first | omega) | exact wd_ix (i := 3) rfl (by first | omega) | exact wd_ix (i := 4) rfl (by first | omega) | exact wd_ix (i := 5) rfl (by first | omega)) ?_
       refine brF ?_
       refine brT ?_
       refine brT ?_
       first | refine x_ix (by first | exact verbs_at (by omega) (by omega) | exact counts_at hkd | exact wd_ix (i := 0) rfl (by first | omega) | exact wd_ix (i := 1) rfl (by first | omega) | exact wd_ix (i := 2) rfl (by first | omega) | exact wd_ix (i := 3) rfl (by first | omega) | exact wd_ix (i := 4) rfl (by first | omega) | exact wd_ix (i := 5) rfl (by first | omega)) ?_ | refine x_ixI (by first | exact verbs_at (by omega) (by omega) | exact counts_at hkd | exact wd_ix (i := 0) rfl (by first | omega) | exact wd_ix (i := 1) rfl (by first | omega) | exact wd_ix (i := 2) rfl (by first | omega) | exact wd_ix (i := 3) rfl (by first | omega) | exact wd_ix (i := 4) rfl (by first | omega) | exact wd_ix (i := 5) rfl (by first | omega)) ?_
       refine brF ?_
       refine brF ?_
       refine brF ?_
       refine brF ?_
       refine brT ?_
       first | refine x_ix (by first | exact verbs_at (by omega) (by omega) | exact counts_at hkd | exact wd_ix (i := 0) rfl (by first | omega) | exact wd_ix (i := 1) rfl (by first | omega) | exact wd_ix (i := 2) rfl (by first | omega) | exact wd_ix (i := 3) rfl (by first | omega) | exact wd_ix (i := 4) rfl (by first | omega) | exact wd_ix (i := 5) rfl (by first | omega)) ?_ | refine x_ixI (by first | exact verbs_at (by omega) (by omega) | exact counts_at hkd | exact wd_ix (i := 0) rfl (by first | omega) | exact wd_ix (i := 1) rfl (by first | omega) | exact wd_ix (i := 2) rfl (by first | omega) | exact wd_ix (i := 3) rfl (by first | omega) | exact wd_ix (i := 4) rfl (by first | omega) | exact wd_ix (i := 5) rfl (by first | omega)) ?_
       refine x_call T.en_105 (by first | exact ref36Table_any (wd w 4) (Nat.le_trans (wd_few hw 4) (by decide)) | exact ref36Table_any (wd w 5) (Nat.le_trans (wd_few hw 5) (by decide))) ?_
       first | refine x_ix (by first | exact verbs_at (by omega) (by omega) | exact counts_at hkd | exact wd_ix (i := 0) rfl (by first | omega) | exact wd_ix (i := 1) rfl (by first | omega) | exact wd_ix (i := 2) rfl (by first | omega) | exact wd_ix (i := 3) rfl (by first | omega) | exact wd_ix (i := 4) rfl (by first | omega) | exact wd_ix (i := 5) rfl (by first | omega)) ?_ | refine x_ixI (by first | exact verbs_at (by omega) (by omega) | exact counts_at hkd | exact wd_ix (i := 0) rfl (by first | omega) | exact wd_ix (i := 1) rfl (by first | omega) | exact wd_ix (i := 2) rfl (by first | omega) | exact wd_ix (i := 3) rfl (by first | omega) | exact wd_ix (i := 4) rfl (by first | omega) | exact wd_ix (i := 5) rfl (by first | omega)) ?_
       refine x_call T.en_105 (by first | exact ref36Table_any (wd w 4) (Nat.le_trans (wd_few hw 4) (by decide)) | exact ref36Table_any (wd w 5) (Nat.le_trans (wd_few hw 5) (by decide))) ?_
       refine And.intro ⟨T.mixed, by decide +kernel⟩ ?_
       refine And.intro (fun hg115 => ?y115) (fun hg115 => ?n115)
       case' y115 =>
        rw [hg115] at hP
        refine And.intro (fun hg116 => ?y116) (fun hg116 => ?n116)
        case' y116 =>
         rw [hg116] at hP
         refine And.intro (fun hg117 => ?y117) (fun hg117 => ?n117)
         case' y117 =>
          rw [hg117] at hP
          refine x_call T.en_17 (by first | exact refLensRight_any (partsR 1 w) (partsR_ok hw) | exact refLensRight_any (partsR 4 w) (partsR_ok hw) | exact refLensRight_any (partsR 5 w) (partsR_ok hw) | exact refLensRight_any (partsR 6 w) (partsR_ok hw) | exact refLensRight_any (partsR 7 w) (partsR_ok hw) | exact refLensRight_any (partsR 8 w) (partsR_ok hw) | exact refLensRight_any (partsR 9 w) (partsR_ok hw) | exact refLensRight_any (partsR 10 w) (partsR_ok hw)) ?_
         case' n117 =>
          rw [hg117] at hP
        case' n116 =>
         rw [hg116] at hP
         refine brF ?_
       case' n115 =>
        rw [hg115] at hP
        refine brF ?_
        refine brF ?_
      case' s2_6 =>
       rw [e] at hlk
       have hlen : w.length = 5 := hlk
       rw [e]
       have hP : parseRL w = (partsR 9 w, ((placeOf (wd w 1)).isSome && decide ((numW (wd w 4)).2 = 0)) && rightL (partsR 9 w)) := by unfold parseRL; rw [e, if_neg (by decide), if_neg (by decide), if_neg (fun q => q hlen)]; rfl
       first | refine x_ix (by first | exact verbs_at (by omega) (by omega) | exact counts_at hkd | exact wd_ix (i := 0) rfl (by first | omega) | exact wd_ix (i := 1) rfl (by first | omega) | exact wd_ix (i := 2) rfl (by first | omega) | exact wd_ix (i := 3) rfl (by first | omega) | exact wd_ix (i := 4) rfl (by first | omega) | exact wd_ix (i := 5) rfl (by first | omega)) ?_ | refine x_ixI (by first | exact verbs_at (by omega) (by omega) | exact counts_at hkd | exact wd_ix (i := 0) rfl (by first | omega) | exact wd_ix (i := 1) rfl (by first | omega) | exact wd_ix (i := 2) rfl (by first | omega) | exact wd_ix (i := 3) rfl (by first | omega) | exact wd_ix (i := 4) rfl (by first | omega) | exact wd_ix (i := 5) rfl (by first | omega)) ?_
       refine x_call T.en_102 (ref13Read_any (wd w 1) (Nat.le_trans (wd_few hw 1) (by decide))) ?_
       refine brF ?_
       refine brF ?_
       refine brF ?_
       refine brF ?_
       refine brT ?_
       first | refine x_ix (by first | exact verbs_at (by omega) (by omega) | exact counts_at hkd | exact wd_ix (i := 0) rfl (by first | omega) | exact wd_ix (i := 1) rfl (by first | omega) | exact wd_ix (i := 2) rfl (by first | omega) | exact wd_ix (i := 3) rfl (by first | omega) | exact wd_ix (i := 4) rfl (by first | omega) | exact wd_ix (i := 5) rfl (by first | omega)) ?_ | refine x_ixI (by first | exact verbs_at (by omega) (by omega) | exact counts_at hkd | exact wd_ix (i := 0) rfl (by first | omega) | exact wd_ix (i := 1) rfl (by first | omega) | exact wd_ix (i := 2) rfl (by first | omega) | exact wd_ix (i := 3) rfl (by first | omega) | exact wd_ix (i := 4) rfl (by first | omega) | exact wd_ix (i := 5) rfl (by first | omega)) ?_
       refine brF ?_
       refine brF ?_
       refine brT ?_
       first | refine x_ix (by first | exact verbs_at (by omega) (by omega) | exact counts_at hkd | exact wd_ix (i := 0) rfl (by first | omega) | exact wd_ix (i := 1) rfl (by first | omega) | exact wd_ix (i := 2) rfl (by first | omega) | exact wd_ix (i := 3) rfl (by first | omega) | exact wd_ix (i := 4) rfl (by first | omega) | exact wd_ix (i := 5) rfl (by first | omega)) ?_ | refine x_ixI (by first | exact verbs_at (by omega) (by omega) | exact counts_at hkd | exact wd_ix (i := 0) rfl (by first | omega) | exact wd_ix (i := 1) rfl (by first | omega) | exact wd_ix (i := 2) rfl (by first | omega) | exact wd_ix (i := 3) rfl (by first | omega) | exact wd_ix (i := 4) rfl (by first | omega) | exact wd_ix (i := 5) rfl (by first | omega)) ?_
       refine brF ?_
       refine brT ?_
       first | refine x_ix (by first | exact verbs_at (by omega) (by omega) | exact counts_at hkd | exact wd_ix (i := 0) rfl (by first | omega) | exact wd_ix (i := 1) rfl (by first | omega) | exact wd_ix (i := 2) rfl (by first | omega) | exact wd_ix (i := 3) rfl (by first | omega) | exact wd_ix (i := 4) rfl (by first | omega) | exact wd_ix (i := 5) rfl (by first | omega)) ?_ | refine x_ixI (by first | exact verbs_at (by omega) (by omega) | exact counts_at hkd | exact wd_ix (i := 0) rfl (by first | omega) | exact wd_ix (i := 1) rfl (by first | omega) | exact wd_ix (i := 2) rfl (by first | omega) | exact wd_ix (i := 3) rfl (by first | omega) | exact wd_ix (i := 4) rfl (by first | omega) | exact wd_ix (i := 5) rfl (by first | omega)) ?_
       refine x_call T.en_103 (ref36Number_any (wd w 4) (Nat.le_trans (wd_few hw 4) (by decide))) ?_
       refine brF ?_
       refine brF ?_
       refine brF ?_
       refine And.intro ⟨T.mixed, by decide +kernel⟩ ?_
       refine And.intro (fun hg134 => ?y134) (fun hg134 => ?n134)
       case' y134 =>
        rw [hg134] at hP
        refine And.intro (fun hg135 => ?y135) (fun hg135 => ?n135)
        case' y135 =>
         rw [hg135] at hP
         refine brT ?_
         refine x_call T.en_17 (by first | exact refLensRight_any (partsR 1 w) (partsR_ok hw) | exact refLensRight_any (partsR 4 w) (partsR_ok hw) | exact refLensRight_any (partsR 5 w) (partsR_ok hw) | exact refLensRight_any (partsR 6 w) (partsR_ok hw) | exact refLensRight_any (partsR 7 w) (partsR_ok hw) | exact refLensRight_any (partsR 8 w) (partsR_ok hw) | exact refLensRight_any (partsR 9 w) (partsR_ok hw) | exact refLensRight_any (partsR 10 w) (partsR_ok hw)) ?_
        case' n135 =>
         rw [hg135] at hP
         refine brF ?_
       case' n134 =>
        rw [hg134] at hP
        refine brF ?_
        refine brF ?_
      case' s2_7 =>
       rw [e] at hlk
       have hlen : w.length = 3 := hlk
       rw [e]
       have hP : parseRL w = (partsR 10 w, ((placeOf (wd w 1)).isSome && (quotedR (wd w 2)).2) && rightL (partsR 10 w)) := by unfold parseRL; rw [e, if_neg (by decide), if_neg (by decide), if_neg (fun q => q hlen)]; rfl
       first | refine x_ix (by first | exact verbs_at (by omega) (by omega) | exact counts_at hkd | exact wd_ix (i := 0) rfl (by first | omega) | exact wd_ix (i := 1) rfl (by first | omega) | exact wd_ix (i := 2) rfl (by first | omega) | exact wd_ix (i := 3) rfl (by first | omega) | exact wd_ix (i := 4) rfl (by first | omega) | exact wd_ix (i := 5) rfl (by first | omega)) ?_ | refine x_ixI (by first | exact verbs_at (by omega) (by omega) | exact counts_at hkd | exact wd_ix (i := 0) rfl (by first | omega) | exact wd_ix (i := 1) rfl (by first | omega) | exact wd_ix (i := 2) rfl (by first | omega) | exact wd_ix (i := 3) rfl (by first | omega) | exact wd_ix (i := 4) rfl (by first | omega) | exact wd_ix (i := 5) rfl (by first | omega)) ?_
       refine x_call T.en_102 (ref13Read_any (wd w 1) (Nat.le_trans (wd_few hw 1) (by decide))) ?_
       refine brF ?_
       refine brF ?_
       refine brF ?_
       refine brF ?_
       refine brF ?_
       refine brF ?_
       refine brF ?_
       refine brF ?_
       refine brF ?_
       refine brF ?_
       refine brF ?_
       refine brT ?_
       first | refine x_ix (by first | exact verbs_at (by omega) (by omega) | exact counts_at hkd | exact wd_ix (i := 0) rfl (by first | omega) | exact wd_ix (i := 1) rfl (by first | omega) | exact wd_ix (i := 2) rfl (by first | omega) | exact wd_ix (i := 3) rfl (by first | omega) | exact wd_ix (i := 4) rfl (by first | omega) | exact wd_ix (i := 5) rfl (by first | omega)) ?_ | refine x_ixI (by first | exact verbs_at (by omega) (by omega) | exact counts_at hkd | exact wd_ix (i := 0) rfl (by first | omega) | exact wd_ix (i := 1) rfl (by first | omega) | exact wd_ix (i := 2) rfl (by first | omega) | exact wd_ix (i := 3) rfl (by first | omega) | exact wd_ix (i := 4) rfl (by first | omega) | exact wd_ix (i := 5) rfl (by first | omega)) ?_
       refine x_call T.en_104 (refQuoted_any (wd w 2) (Nat.le_trans (wd_few hw 2) (by decide))) ?_
       refine brF ?_
       refine And.intro ⟨T.mixed, by decide +kernel⟩ ?_
       refine And.intro (fun hg153 => ?y153) (fun hg153 => ?n153)
       case' y153 =>
        rw [hg153] at hP
        refine And.intro (fun hg154 => ?y154) (fun hg154 => ?n154)
        case' y154 =>
         rw [hg154] at hP
         refine brT ?_
         refine x_call T.en_17 (by first | exact refLensRight_any (partsR 1 w) (partsR_ok hw) | exact refLensRight_any (partsR 4 w) (partsR_ok hw) | exact refLensRight_any (partsR 5 w) (partsR_ok hw) | exact refLensRight_any (partsR 6 w) (partsR_ok hw) | exact refLensRight_any (partsR 7 w) (partsR_ok hw) | exact refLensRight_any (partsR 8 w) (partsR_ok hw) | exact refLensRight_any (partsR 9 w) (partsR_ok hw) | exact refLensRight_any (partsR 10 w) (partsR_ok hw)) ?_
        case' n154 =>
         rw [hg154] at hP
         refine brF ?_
       case' n153 =>
        rw [hg153] at hP
        refine brF ?_
        refine brF ?_
 all_goals (refine x_ret ?_; simp only [fitsL, fits, C.asD, and_true] <;> (rw [hP]; (first | (constructor <;> first | rfl | (simp; done)) | rfl)))
end Go.Vm
end
section
namespace Go.Vm
set_option linter.unusedVariables false
set_option linter.unusedSimpArgs false

/-! ### What is picked out of a map -/
def pick {β : Type} (p : NodeD → Bool) (f : TagD × NodeD → β) (l : List (TagD × NodeD)) (seen : List Nat) : List β := seen.filterMap fun i => (l[i]?).bind fun q => if p q.2 = true then some (f q) else none
/-- Each entry once. -/
def Seen (n : Nat) (seen : List Nat) : Prop := seen.Nodup ∧ ∀ i ∈ seen, i < n
theorem Seen.next {n i : Nat} {seen : List Nat} (h : Seen n seen) (hi : i < n) (hn : i ∉ seen) : Seen n (seen ++ [i]) := by
  refine ⟨List.nodup_append.2 ⟨h.1, by simp, ?_⟩, fun j hj => ?_⟩
  · intro a ha b hb e
    rw [List.mem_singleton] at hb
    subst hb e; exact hn ha
  · rcases List.mem_append.1 hj with hj | hj
    · exact h.2 j hj
    · rw [List.mem_singleton.1 hj]; exact hi
theorem Seen.all {n : Nat} {seen : List Nat} (h : Seen n seen) (ha : ∀ i, i < n → i ∈ seen) : seen.Perm (List.range n) := by
  refine (List.perm_ext_iff_of_nodup h.1 List.nodup_range).2 fun i => ?_
  rw [List.mem_range]
  exact ⟨h.2 i, ha i⟩
theorem Seen.len {n : Nat} {seen : List Nat} (h : Seen n seen) : seen.length ≤ n := by
  have hp : seen.Perm ((List.range n).filter fun i => decide (i ∈ seen)) := (List.perm_ext_iff_of_nodup h.1 (List.nodup_range.filter _)).2 fun i => by
    rw [List.mem_filter, List.mem_range, decide_eq_true_eq]
    exact ⟨fun hi => ⟨h.2 i hi, hi⟩, fun hi => hi.2⟩
  have := List.length_filter_le (fun i => decide (i ∈ seen)) (List.range n)
  rw [hp.length_eq]
  simpa using this
/-! ### The same edges in another order -/
end Go.Vm
end
section
namespace Go.Vm
set_option linter.unusedVariables false
set_option linter.unusedSimpArgs false

/-! ### Ways -/
/-! ### Sorting as the document's answer does it -/
theorem rightL_kind {x : LensD} (h : rightL x = true) : 1 ≤ x.kind := by
  unfold rightL at h
  split at h
  · omega
  · simp only [Bool.and_eq_true] at h
    have h := h.2
    split at h
    · omega
    · simp only [Bool.and_eq_true] at h
      have h := h.2
      split at h
      · omega
      · simp only [Bool.and_eq_true] at h
        have h := h.2
        split at h
        · omega
        · simp only [Bool.and_eq_true] at h
          have h := h.2
          split at h
          · omega
          · split at h
            · omega
            · split at h
              · omega
              · cases h
theorem edgeB_ref (e : EdgeD) : edgeB e = (tagB e.id && (decide (e.parent = noTag) || tagB e.parent) && !decide (e.id = e.parent) && rightL e.lens && decide (e.lens.kind < 9)) := by
  unfold edgeB
  cases h1 : tagB e.id with
  | false => rfl
  | true =>
    have hr := tag_real h1
    cases h2 : rightL e.lens with
    | false => simp
    | true =>
      have hk := rightL_kind h2
      by_cases h3 : e.parent = noTag
      · have h5 : ¬ e.id = e.parent := by rw [h3]; exact hr
        rw [decide_eq_true h3, decide_eq_false h5]
        rw [Bool.eq_iff_iff]; simp only [Bool.true_and, Bool.true_or, Bool.and_true, Bool.not_false, Bool.and_eq_true, decide_eq_true_eq]; omega
      · rw [decide_eq_false h3]
        by_cases h4 : e.id = e.parent
        · rw [decide_eq_true h4, decide_eq_true h4.symm]; simp
        · have h5 : ¬ e.parent = e.id := fun h => h4 h.symm
          rw [decide_eq_false h4, decide_eq_false h5]
          cases tagB e.parent <;> (rw [Bool.eq_iff_iff]; simp only [Bool.true_and, Bool.false_or, Bool.and_true, Bool.not_false, Bool.and_eq_true, decide_eq_true_eq, Bool.false_and, Bool.and_false, Bool.false_eq_true, false_and, and_false]; try omega)
end Go.Vm
end
section
namespace Go.Vm
open Go.RowKit Go.Proofs
set_option linter.unusedVariables false
set_option linter.unusedSimpArgs false
set_option maxRecDepth 10000

set_option maxHeartbeats 1000000 in
theorem refEdge_any (e : EdgeD) (he : okX e.lens) : Contract Tryz.prog 11 [eD e] [.d (.sc (.bool (edgeB e)))] := by
 refine T.fn [] Tryz.func11 ?_
 refine x_call T.en_51 (refTag_any _) ?_
 refine br (fun hg1 => ?y1) (fun hg1 => ?n1)
 case' y1 =>
  first | refine xeq_23e _ _ ?_ | refine xeq_23e _ noTag ?_ | refine xeq_23e noTag _ ?_
  refine br (fun hg2 => ?y2) (fun hg2 => ?n2)
  case' y2 =>
   refine brT ?_
   first | refine xeq_23n _ _ ?_ | refine xeq_23n _ noTag ?_ | refine xeq_23n noTag _ ?_
   refine br (fun hg4 => ?y4) (fun hg4 => ?n4)
   case' y4 =>
    refine x_call T.en_17 (refLensRight_any _ he) ?_
    refine br (fun hg5 => ?y5) (fun hg5 => ?n5)
   case' n4 =>
    refine brF ?_
  case' n2 =>
   refine x_call T.en_51 (refTag_any _) ?_
   refine br (fun hg7 => ?y7) (fun hg7 => ?n7)
   case' y7 =>
    first | refine xeq_23n _ _ ?_ | refine xeq_23n _ noTag ?_ | refine xeq_23n noTag _ ?_
    refine br (fun hg8 => ?y8) (fun hg8 => ?n8)
    case' y8 =>
     refine x_call T.en_17 (refLensRight_any _ he) ?_
     refine br (fun hg9 => ?y9) (fun hg9 => ?n9)
    case' n8 =>
     refine brF ?_
   case' n7 =>
    refine brF ?_
    refine brF ?_
 case' n1 =>
  refine brF ?_
  refine brF ?_
  refine brF ?_
 all_goals (refine x_ret ?_; simp only [fitsL, fits, C.asD, and_true] <;> (refine scb ?_; rw [edgeB_ref]; first | (simp_all; done) | (rw [Bool.eq_iff_iff]; simp_all <;> omega)))

set_option maxHeartbeats 1000000 in
theorem refSame_any (e f : EdgeD) (he : okX e.lens) : Contract Tryz.prog 14 [eD e, eD f] [.d (.sc (.bool (decide (e = f))))] := by
 refine T.fn [] Tryz.func14 ?_
 first | refine xeq_23e _ _ ?_ | refine xeq_23e _ noTag ?_ | refine xeq_23e noTag _ ?_
 refine br (fun hg1 => ?y1) (fun hg1 => ?n1)
 case' y1 =>
  first | refine xeq_23e _ _ ?_ | refine xeq_23e _ noTag ?_ | refine xeq_23e noTag _ ?_
  refine br (fun hg2 => ?y2) (fun hg2 => ?n2)
  case' y2 =>
   refine x_call T.en_20 (refLensSame_any _ _ he) ?_
 case' n1 =>
  refine brF ?_
 all_goals (refine x_ret ?_; simp only [fitsL, fits, C.asD, and_true] <;> (refine scb ?_; clear he; cases e; cases f; simp_all))

end Go.Vm
end
section
namespace Go.Vm
open Go.RowKit Go.Proofs
set_option linter.unusedVariables false
set_option linter.unusedSimpArgs false
set_option maxRecDepth 10000

open Go.Proofs.YtmmffeldlhofiaaGreatDoor Punnet.Name Punnet.Num

theorem cut_at {s : ByteArray} {k : Nat} (hi : (46 : UInt8) ∉ s.data.toList.take k) (hc : s[k]? = some 46) : cutC 46 s.data.toList = (s.data.toList.take k, s.data.toList.drop (k + 1), true) := by
  rw [get_data'] at hc
  have hl := (List.getElem?_eq_some_iff.1 hc).1
  have e : s.data.toList = s.data.toList.take k ++ 46 :: s.data.toList.drop (k + 1) := by
    conv => lhs; rw [← List.take_append_drop k s.data.toList]
    rw [List.drop_eq_getElem_cons hl, (List.getElem?_eq_some_iff.1 hc).2]
  conv => lhs; rw [e]
  exact cutC_hit hi
theorem not_next {s : ByteArray} {k : Nat} {c : UInt8} (hi : (46 : UInt8) ∉ s.data.toList.take k) (hc : s[k]? = some c) (hn : ¬ c = 46) : (46 : UInt8) ∉ s.data.toList.take (k + 1) := by
  rw [get_data'] at hc
  rw [List.take_add_one, hc]
  intro q
  rcases List.mem_append.1 q with q | q
  · exact hi q
  · simp at q; exact hn q.symm
theorem tag_none_of {s : ByteArray} (h : (46 : UInt8) ∉ s.data.toList) : tagOf s = none := tag_cutC_no (cutC_miss h) fun q => absurd q.2 (by decide)
theorem tag_none_at {s : ByteArray} {k : Nat} (h : k = s.size) (hi : (46 : UInt8) ∉ s.data.toList.take k) : tagOf s = none := tag_none_of (by rw [h, ← ba_len, List.take_length] at hi; exact hi)
theorem okX_rightL9 {x : LensD} (h : rightL x = true) : okX x := by
  have z := rightL_size h
  refine ⟨?_, Nat.le_trans z.forth.1 (by decide), Nat.le_trans z.back.1 (by decide)⟩
  by_cases hk : x.kind = 2 ∨ x.kind = 3
  · exact Nat.le_trans (rightF_size (z.field.1 hk)).2.2.1 (by decide)
  · rw [z.field.2 hk]; exact Nat.zero_le _

set_option maxHeartbeats 1000000 in
theorem ref34ReadTag_any (s : ByteArray) (hs : s.size ≤ 1000000) : Contract Tryz.prog 56 [.sc (.string (s))] [.d (tD ((tagOf s).getD noTag)), .d (.sc (.bool ((tagOf s).isSome)))] := by
 refine T.fn [] Tryz.func56 ?_
 refine xloopR (fb := []) T.ok (Nat.le_of_ble_eq_true rfl) [0, 2] (fun (k : Nat) => [(4, .c (.d (.sc (.int .i64 (k : Nat)))))]) (fun k => k ≤ s.size ∧ (46 : UInt8) ∉ s.data.toList.take k) (fun k => s.size - k) 0 ⟨Nat.zero_le _, by simp⟩ (x_ent (by first | rfl | (simp only [Tr.get]; simp; done)) trivial) ?_
 rintro k ⟨hk, hi⟩
 refine x_len ?_
 refine br (fun hc1 => ?y1) (fun hc1 => ?n1)
 case' y1 =>
  obtain ⟨c, hc⟩ : ∃ c, s[k]? = some c := ⟨_, getElem?_pos s k (by omega)⟩
  first | refine x_ch (by exact str_ix hc) ?_ | refine x_chI (by exact str_ix hc) ?_
  refine br (fun hc2 => ?y2) (fun hc2 => ?n2)
  case' y2 =>
   have hcm : ¬ c = 46 := by rintro rfl; exact hc2 rfl
   first | refine x_inc ?_ (h := by (first | omega | (simp; omega))) | refine x_add ?_ (h := by first | exact IntWalk.i64_in _ (by (first | omega | (simp; omega))) | rfl) | refine x_bin rfl rfl ?_
   refine x_rnd (k + 1) ⟨by omega, not_next hi hc hcm⟩ (by (try dsimp only); omega) rfl (x_ent (by first | rfl | (simp only [Tr.get]; simp; done)) trivial) rfl
  case' n2 =>
   have hc46 : c = 46 := by rw [← UInt8.toNat_inj]; show c.toNat = 46; omega
   have hcut := cut_at hi (by rw [← hc46]; exact hc)
   have e1 : numW (s.extract 0 k) = readOf (s.data.toList.take k) := by show readOf _ = _; rw [ext_data, List.drop_zero]
   have e2 : numW (s.extract (k + 1) s.size) = readOf (s.data.toList.drop (k + 1)) := by show readOf _ = _; rw [ext_data, ← ba_len, List.take_length]
   have hz1 : (s.extract 0 k).size ≤ 1000000 := by rw [ByteArray.size_extract]; omega
   have hz2 : (s.extract (k + 1) s.size).size ≤ 1000000 := by rw [ByteArray.size_extract]; omega
   first | refine x_bnd ?_ | refine x_bndI ?_
   refine x_str ?_ (h1 := by (first | omega | (simp; omega))) (h2 := by (first | omega | (simp; omega)))
   refine x_call T.en_101 (by first | exact ref34Number_any (s.extract 0 k) hz1 | exact ref34Number_any (s.extract (k + 1) s.size) hz2) ?_
   first | refine x_inc ?_ (h := by (first | omega | (simp; omega))) | refine x_add ?_ (h := by first | exact IntWalk.i64_in _ (by (first | omega | (simp; omega))) | rfl) | refine x_bin rfl rfl ?_
   first | refine x_bnd ?_ | refine x_bndI ?_
   refine x_str ?_ (h1 := by (first | omega | (simp; omega))) (h2 := by (first | omega | (simp; omega)))
   refine x_call T.en_101 (by first | exact ref34Number_any (s.extract 0 k) hz1 | exact ref34Number_any (s.extract (k + 1) s.size) hz2) ?_
   refine br (fun hg3 => ?y3) (fun hg3 => ?n3)
   case' y3 =>
    have h1 := hg3
    refine br (fun hc4 => ?y4) (fun hc4 => ?n4)
    case' y4 =>
     have hY := tag_cutC hcut (by rw [← e1]; exact h1) (by rw [← e2]; exact hc4)
    case' n4 =>
     have hN := tag_cutC_no hcut (fun q => hc4 (by rw [e2]; exact q.2))
   case' n3 =>
    have hN := tag_cutC_no hcut (fun q => hg3 (by rw [e1]; exact q.1))
    refine brF ?_
 case' n1 =>
  have hN := tag_none_at (s := s) (k := k) (by omega) hi
 all_goals (refine x_ret ?_; simp only [fitsL, fits, C.asD, and_true] <;> (first | (rw [hN]; (first | rfl | (constructor <;> rfl))) | (rw [hY, e1, e2]; (first | rfl | (constructor <;> rfl)))))

set_option maxHeartbeats 1000000 in
theorem ref36ReadEdge_any (s : ByteArray) (hs : s.size ≤ 900000) (hws : ∀ a ∈ splitB s 0, a.size ≤ 900) : Contract Tryz.prog 15 [.sc (.string (s))] [.d (eD ((edgeS s).getD noEdge)), .d (.sc (.bool ((edgeS s).isSome)))] := by
 refine T.fn [] Tryz.func15 ?_
 have hsn := split_num (s := s)
 have hwz : ∀ i, (wd (splitB s 0) i).size ≤ 1000000 := fun i => Nat.le_trans (wd_few hws i) (by decide)
 refine x_call T.en_55 (refSplit_c s (by omega)) ?_
 refine x_len ?_
 refine br (fun hc1 => ?y1) (fun hc1 => ?n1)
 case' y1 =>
  have hN := edgeR_no (s := s) (fun e _ _ _ _ _ h9 => by omega)
 case' n1 =>
  have hl3 : ¬ (splitB s 0).length < 3 := by omega
  first | refine x_ix (by first | exact wd_ix (i := 0) rfl (by omega) | exact wd_ix (i := 1) rfl (by omega) | exact wd_ix (i := 2) rfl (by omega) | exact wd_ix (i := 3) rfl (by omega) | exact wd_ix (i := 4) rfl (by omega) | exact wd_ix (i := 5) rfl (by omega)) ?_ | refine x_ixI (by first | exact wd_ix (i := 0) rfl (by omega) | exact wd_ix (i := 1) rfl (by omega) | exact wd_ix (i := 2) rfl (by omega) | exact wd_ix (i := 3) rfl (by omega) | exact wd_ix (i := 4) rfl (by omega) | exact wd_ix (i := 5) rfl (by omega)) ?_
  refine x_call T.en_56 (ref34ReadTag_any (wd (splitB s 0) 0) (hwz 0)) ?_
  first | refine x_ix (by first | exact wd_ix (i := 0) rfl (by omega) | exact wd_ix (i := 1) rfl (by omega) | exact wd_ix (i := 2) rfl (by omega) | exact wd_ix (i := 3) rfl (by omega) | exact wd_ix (i := 4) rfl (by omega) | exact wd_ix (i := 5) rfl (by omega)) ?_ | refine x_ixI (by first | exact wd_ix (i := 0) rfl (by omega) | exact wd_ix (i := 1) rfl (by omega) | exact wd_ix (i := 2) rfl (by omega) | exact wd_ix (i := 3) rfl (by omega) | exact wd_ix (i := 4) rfl (by omega) | exact wd_ix (i := 5) rfl (by omega)) ?_
  refine x_call T.en_56 (ref34ReadTag_any (wd (splitB s 0) 1) (hwz 1)) ?_
  first | refine x_bnd ?_ | refine x_bndI ?_
  refine x_row ?_ (by first | exact str1_wide | exact strsl_wide _ | (intro x hx; cases hx)) (h1 := by ((try simp only [List.length_map]); omega)) (h2 := by ((try simp only [List.length_map]); omega)) (hy := by first | exact words_tl | exact rfl | rfl)
  refine x_call T.en_57 (ref36ParseLens_any ((splitB s 0).drop 2) (by rw [List.length_drop]; omega) (fun a ha => hws a (List.mem_of_mem_drop ha))) ?_
  refine br (fun hg2 => ?y2) (fun hg2 => ?n2)
  case' y2 =>
   have ht0 : tagOf (wd (splitB s 0) 0) = none := by cases hq : tagOf (wd (splitB s 0) 0) with | none => rfl | some r => rw [hq] at hg2; simp at hg2
   have hN := edgeR_no (s := s) (fun e _ _ h1 _ _ _ => by rw [ht0] at h1; cases h1)
   refine brT ?_
   refine brT ?_
   refine brT ?_
  case' n2 =>
   obtain ⟨a, ht0⟩ : ∃ r, tagOf (wd (splitB s 0) 0) = some r := by cases hq : tagOf (wd (splitB s 0) 0) with | none => rw [hq] at hg2; simp at hg2 | some r => exact ⟨r, rfl⟩
   rw [ht0]
   refine br (fun hg6 => ?y6) (fun hg6 => ?n6)
   case' y6 =>
    have ht1 : tagOf (wd (splitB s 0) 1) = none := by cases hq : tagOf (wd (splitB s 0) 1) with | none => rfl | some r => rw [hq] at hg6; simp at hg6
    have hN := edgeR_no (s := s) (fun e _ _ _ h1 _ _ => by rw [ht1] at h1; cases h1)
    refine brT ?_
    refine brT ?_
   case' n6 =>
    obtain ⟨b, ht1⟩ : ∃ r, tagOf (wd (splitB s 0) 1) = some r := by cases hq : tagOf (wd (splitB s 0) 1) with | none => rw [hq] at hg6; simp at hg6 | some r => exact ⟨r, rfl⟩
    rw [ht1]
    refine br (fun hg9 => ?y9) (fun hg9 => ?n9)
    case' y9 =>
     have hp3 : (parseRL ((splitB s 0).drop 2)).2 = false := by simpa using hg9
     have hN := edgeR_no (s := s) (fun e _ _ _ _ h1 _ => by rw [h1] at hp3; cases hp3)
     refine brT ?_
    case' n9 =>
     have hp3 : (parseRL ((splitB s 0).drop 2)).2 = true := by simpa using hg9
     have hok := okX_rightL9 (parseRL_yes hp3).1
     refine x_call T.en_11 (refEdge_any ⟨a, b, (parseRL ((splitB s 0).drop 2)).1⟩ hok) ?_
     refine br (fun hc11 => ?y11) (fun hc11 => ?n11)
     case' y11 =>
      have he : edgeB ⟨a, b, (parseRL ((splitB s 0).drop 2)).1⟩ = false := by simpa using hc11
      have hN := edgeR_no (s := s) (fun e k1 _ h1 h2 h3 _ => by rw [ht0] at h1; rw [ht1] at h2; injection h1 with h1; injection h2 with h2; rw [h3, h1, h2] at he; rw [show (⟨e.id, e.parent, e.lens⟩ : EdgeD) = e from rfl, k1] at he; cases he)
     case' n11 =>
      have he : edgeB ⟨a, b, (parseRL ((splitB s 0).drop 2)).1⟩ = true := by simpa using hc11
      have hY := edgeR_yes hl3 ht0 ht1 hp3 he
 all_goals (refine x_ret ?_; simp only [fitsL, fits, C.asD, and_true] <;> (first | (rw [hN]; (first | rfl | (constructor <;> rfl))) | (rw [hY]; (first | rfl | (constructor <;> rfl)))))
end Go.Vm
end
section
namespace Go.Vm
open Go.RowKit Go.Proofs
set_option linter.unusedVariables false
set_option linter.unusedSimpArgs false
set_option maxRecDepth 10000

open Go.Proofs.YtmmffeldlhofiaaGreatDoor Punnet.Name Punnet.Num

def exT36 : ByteArray := ⟨#[49, 46, 49, 32, 48, 46, 48, 32, 119, 114, 97, 112, 32, 108, 105, 110, 101, 46, 110, 111, 116, 101, 32, 34, 34]⟩
def exE36 : EdgeD := ⟨⟨1, 1⟩, ⟨0, 0⟩, ⟨7, ⟨1, noB, ⟨#[110, 111, 116, 101]⟩⟩, noB, noB, 0, noField, [], []⟩⟩
def exL36 : LensD := ⟨6, ⟨1, noB, ⟨#[113, 116, 121]⟩⟩, ⟨#[117, 110, 105, 116]⟩, ⟨#[98, 111, 120]⟩, 12, noField, [], []⟩
theorem exE36_read : edgeS exT36 = some exE36 := edgeS_some (by decide +kernel) (by decide +kernel)
theorem exL36_right : rightL exL36 = true := by decide +kernel
theorem exL36_text : textL exL36 = ⟨#[115, 112, 108, 105, 116, 32, 108, 105, 110, 101, 46, 113, 116, 121, 32, 117, 110, 105, 116, 32, 98, 111, 120, 32, 49, 50]⟩ := by decide +kernel
theorem orO {α : Type} (o : Option α) {p : Prop} (h1 : o = none → p) (h2 : (∃ y, o = some y) → p) : p := by
  cases h : o with
  | none => exact h1 h
  | some y => exact h2 ⟨y, h⟩
theorem edge_words {x : EdgeD} (h : edgeB x = true) : ∀ a ∈ splitB (textE x) 0, a.size ≤ 900 := by
  rw [show splitB (textE x) 0 = edgeW x from split_line (by unfold edgeW; simp) (edgeW_whole h)]
  exact fun a ha => Nat.le_trans (edgeW_sizes h a ha) (by decide)
theorem self_eD (x : EdgeD) (h : okX x.lens) : Contract Tryz.prog 14 [eD x, eD x] [.d (.sc (.bool true))] := by
  have := refSame_any x x h
  rwa [decide_eq_true rfl] at this

set_option maxHeartbeats 1000000 in
theorem awake36_any  : Contract Tryz.prog 8 [] [.d (.sc (.bool (true)))] := by
 refine T.fn [] Tryz.func8 ?_
 have c1 := skReadEdge_any exT36 (by decide) (fun a ha => Nat.le_trans (split_size ha) (by decide))
 rw [exE36_read] at c1
 have c2 := skLens_any exL36 ⟨by decide, by decide, by decide⟩
 rw [if_pos exL36_right, if_pos exL36_right, exL36_text] at c2
 refine x_call T.en_12 (c1) ?_
 refine x_call T.en_16 (c2) ?_
 refine brT ?_
 refine brT ?_
 refine xeq_23e ⟨1, 1⟩ ⟨1, 1⟩ ?_
 refine brT ?_
 refine brT ?_
 all_goals (refine x_ret ?_; simp only [fitsL, fits, C.asD, and_true] <;> (rfl))

set_option maxHeartbeats 1000000 in
theorem sketchEdges_any (f : EdgeD) (s : ByteArray) : Contract Tryz.prog 3 [eD f, .sc (.string (s))] [.d (.sc (.bool (true)))] := by
 refine T.fn [] Tryz.func3 ?_
 refine x_call T.en_8 (awake36_any) ?_
 refine brF ?_
 refine x_call T.en_9 (refLensHeavy_any _) ?_
 refine br (fun hg2 => ?y2) (fun hg2 => ?n2)
 case' y2 =>
  refine brT ?_
 case' n2 =>
  have hh1 : (fun e : EdgeD => heavyL e.lens) f = false := by simpa using hg2
  have hcf : okX f.lens := heavyL_ok hh1
  refine x_len ?_
  refine br (fun hc4 => ?y4) (fun hc4 => ?n4)
  case' n4 =>
   have hs8 : s.size ≤ 800 := by omega
   have hws : ∀ a ∈ splitB s 0, a.size ≤ 900 := fun a ha => Nat.le_trans (split_size ha) (by omega)
   refine orO (edgeS s) (fun e => ?s5_0) (fun e => ?s5_1)
   case' s5_0 =>
    have c4 := skReadEdge_any s (by omega) hws
    have c5 := ref36ReadEdge_any s (by omega) hws
    rw [e] at c4 c5
    refine x_call T.en_10 (skEdge_any f hcf) ?_
    refine x_call T.en_11 (refEdge_any f hcf) ?_
    refine br (fun hc5 => ?y5) (fun hc5 => ?n5)
    case' y5 =>
     have hr : edgeB f = false := by simpa using hc5
     have hX : (if edgeB f = true then textE f else noB) = noB := if_neg (by rw [hr]; decide)
     have hC : (if edgeB f = true then (0 : Int) else 5) = 5 := if_neg (by rw [hr]; decide)
     rw [hX, hC]
     refine brF ?_
     refine br (fun hc7 => ?y7) (fun hc7 => ?n7)
     case' y7 =>
      exact absurd rfl hc7
     case' n7 =>
      refine x_call T.en_12 (by first | exact c3 | exact c4) ?_
      refine x_call T.en_15 (c5) ?_
      refine x_call T.en_14 (by first | exact self_eD f hcf | exact self_eD y (okX_rightL9 (edgeB_tags hy1.1).2.2) | exact self_eD noEdge ⟨Nat.zero_le _, Nat.zero_le _, Nat.zero_le _⟩) ?_
      refine brT ?_
      first | refine x_bin (pr_eqb Tryz.underlying4) rfl ?_ | refine x_bin rfl rfl ?_
      refine brT ?_
      refine brF ?_
      refine brT ?_
      refine brT ?_
    case' n5 =>
     have hr : edgeB f = true := by simpa using hc5
     have hX : (if edgeB f = true then textE f else noB) = textE f := if_pos (by rw [hr])
     have hC : (if edgeB f = true then (0 : Int) else 5) = 0 := if_pos (by rw [hr])
     rw [hX, hC]
     have c3 := skReadEdge_any (textE f) (Nat.le_trans (textE_size hr) (by decide)) (edge_words hr)
     rw [edgeS_some hr rfl] at c3
     refine x_call T.en_12 (by first | exact c3 | exact c4) ?_
     refine brF ?_
     refine x_call T.en_13 (by first | exact ref36Edge_any f hr | exact ref36Edge_any y hy1.1) ?_
     refine br (fun hg14 => ?y14) (fun hg14 => ?n14)
     case' y14 =>
      exact absurd rfl hg14
     case' n14 =>
      refine brF ?_
      refine x_call T.en_14 (by first | exact self_eD f hcf | exact self_eD y (okX_rightL9 (edgeB_tags hy1.1).2.2) | exact self_eD noEdge ⟨Nat.zero_le _, Nat.zero_le _, Nat.zero_le _⟩) ?_
      refine brF ?_
      refine x_call T.en_12 (by first | exact c3 | exact c4) ?_
      refine x_call T.en_15 (c5) ?_
      refine x_call T.en_14 (by first | exact self_eD f hcf | exact self_eD y (okX_rightL9 (edgeB_tags hy1.1).2.2) | exact self_eD noEdge ⟨Nat.zero_le _, Nat.zero_le _, Nat.zero_le _⟩) ?_
      refine brT ?_
      first | refine x_bin (pr_eqb Tryz.underlying4) rfl ?_ | refine x_bin rfl rfl ?_
      refine brT ?_
      refine brF ?_
      refine brT ?_
      refine brT ?_
   case' s5_1 =>
    obtain ⟨y, hy⟩ := e
    have hy1 := pick_inv hy
    have c4 := skReadEdge_any s (by omega) hws
    have c5 := ref36ReadEdge_any s (by omega) hws
    rw [hy] at c4 c5
    refine x_call T.en_10 (skEdge_any f hcf) ?_
    refine x_call T.en_11 (refEdge_any f hcf) ?_
    refine br (fun hc22 => ?y22) (fun hc22 => ?n22)
    case' y22 =>
     have hr : edgeB f = false := by simpa using hc22
     have hX : (if edgeB f = true then textE f else noB) = noB := if_neg (by rw [hr]; decide)
     have hC : (if edgeB f = true then (0 : Int) else 5) = 5 := if_neg (by rw [hr]; decide)
     rw [hX, hC]
     refine brF ?_
     refine br (fun hc24 => ?y24) (fun hc24 => ?n24)
     case' y24 =>
      exact absurd rfl hc24
     case' n24 =>
      refine x_call T.en_12 (by first | exact c3 | exact c4) ?_
      refine x_call T.en_15 (c5) ?_
      refine x_call T.en_14 (by first | exact self_eD f hcf | exact self_eD y (okX_rightL9 (edgeB_tags hy1.1).2.2) | exact self_eD noEdge ⟨Nat.zero_le _, Nat.zero_le _, Nat.zero_le _⟩) ?_
      refine brT ?_
      first | refine x_bin (pr_eqb Tryz.underlying4) rfl ?_ | refine x_bin rfl rfl ?_
      refine brT ?_
      refine brT ?_
      refine brT ?_
      refine brF ?_
      refine x_call T.en_13 (by first | exact ref36Edge_any f hr | exact ref36Edge_any y hy1.1) ?_
    case' n22 =>
     have hr : edgeB f = true := by simpa using hc22
     have hX : (if edgeB f = true then textE f else noB) = textE f := if_pos (by rw [hr])
     have hC : (if edgeB f = true then (0 : Int) else 5) = 0 := if_pos (by rw [hr])
     rw [hX, hC]
     have c3 := skReadEdge_any (textE f) (Nat.le_trans (textE_size hr) (by decide)) (edge_words hr)
     rw [edgeS_some hr rfl] at c3
     refine x_call T.en_12 (by first | exact c3 | exact c4) ?_
     refine brF ?_
     refine x_call T.en_13 (by first | exact ref36Edge_any f hr | exact ref36Edge_any y hy1.1) ?_
     refine br (fun hg31 => ?y31) (fun hg31 => ?n31)
     case' y31 =>
      exact absurd rfl hg31
     case' n31 =>
      refine brF ?_
      refine x_call T.en_14 (by first | exact self_eD f hcf | exact self_eD y (okX_rightL9 (edgeB_tags hy1.1).2.2) | exact self_eD noEdge ⟨Nat.zero_le _, Nat.zero_le _, Nat.zero_le _⟩) ?_
      refine brF ?_
      refine x_call T.en_12 (by first | exact c3 | exact c4) ?_
      refine x_call T.en_15 (c5) ?_
      refine x_call T.en_14 (by first | exact self_eD f hcf | exact self_eD y (okX_rightL9 (edgeB_tags hy1.1).2.2) | exact self_eD noEdge ⟨Nat.zero_le _, Nat.zero_le _, Nat.zero_le _⟩) ?_
      refine brT ?_
      first | refine x_bin (pr_eqb Tryz.underlying4) rfl ?_ | refine x_bin rfl rfl ?_
      refine brT ?_
      refine brT ?_
      refine brT ?_
      refine brF ?_
      refine x_call T.en_13 (by first | exact ref36Edge_any f hr | exact ref36Edge_any y hy1.1) ?_
 all_goals (refine x_ret ?_; simp only [fitsL, fits, C.asD, and_true] <;> (first | rfl | (rw [decide_eq_true hy1.2]; done) | (simp [hy1.2]; done)))
end Go.Vm
end
section
namespace Go.Vm
open Go.RowKit Go.Proofs
set_option linter.unusedVariables false
set_option linter.unusedSimpArgs false
set_option maxRecDepth 10000

open Go.RowKit

section
variable {P : Program} {w : World}
theorem reps_cut {ro : Roles} {es : List Value} {o k : Nat} {c d : List D} (h1 : Reps ro w ((es.drop o).take k) c) (h2 : Reps ro w (es.drop (o + k)) d) : Reps ro w (es.drop o) (c ++ d) := by
  have h := h1.append h2
  rwa [← List.drop_drop, List.take_append_drop] at h
theorem reps_end {ro : Roles} {es : List Value} {o : Nat} (h : es.length = o) : Reps ro w (es.drop o) [] := by
  rw [List.drop_eq_nil_of_le (by omega)]; exact Reps.nil
theorem cells_int {t : TypeId} {cs : List Value} (ht : P.underlying t = some (.int .i64)) (h : Reads P w t cs) : ∃ n : Int, Reps allFrozen w cs [.sc (.int .i64 n)] := by
  obtain ⟨n, rfl, _⟩ := h.int ht
  exact ⟨n, rfl, by simp [Value.oneCell'], fun j u c hu hc => by cases j with | zero => simp at hu hc; subst hu hc; exact .sc rfl | succ j => simp at hu⟩
theorem cells_str {t : TypeId} {cs : List Value} (ht : P.underlying t = some .string) (h : Reads P w t cs) : ∃ s : ByteArray, Reps allFrozen w cs [.sc (.string s)] := by
  obtain ⟨s, rfl, _⟩ := h.string ht
  exact ⟨s, rfl, by simp [Value.oneCell'], fun j u c hu hc => by cases j with | zero => simp at hu hc; subst hu hc; exact .sc rfl | succ j => simp at hu⟩
theorem cells_row {t e : TypeId} {sz : Nat} {α : Type} {enc : α → D} {cs : List Value} (ht : P.underlying t = some (.slice e)) (hsz : P.cellsOf e = sz) (h0 : 0 < sz) (hw : ∀ x, (enc x).cells.length = sz) (hel : Cells P w e enc (fun _ => True)) (h : Reads P w t cs) : ∃ xs : List α, Reps allFrozen w cs [.row (xs.map enc)] := by
  have hc : ∃ a l c, cs = [.slice a l c] := by
    rcases h.slice ht with rfl | ⟨a, l, c, rfl, _⟩
    · exact ⟨_, _, _, rfl⟩
    · exact ⟨_, _, _, rfl⟩
  obtain ⟨a, l, c, rfl⟩ := hc
  obtain ⟨xs, hx, _⟩ := row_of ht hsz h0 hw hel h
  exact ⟨xs, rfl, by simp [Value.oneCell'], fun j u c hu hc => by cases j with | zero => simp at hu hc; subst hu hc; exact hx | succ j => simp at hu⟩
theorem rep_agg {ro : Roles} {s : Array Value} {cs : List D} (h : Reps ro w s.toList cs) : Rep ro w (.agg s) (.agg cs) := .agg (by simpa using h.1) h.2.1 h.2.2
end
theorem str_cells (w : World) : Cells Tryz.prog w 9 strD (fun _ => True) := by
  intro es h
  obtain ⟨s, hs⟩ := cells_str Tryz.underlying9 h
  exact ⟨s, hs, trivial⟩

theorem ref_cells (w : World) : Cells Tryz.prog w 25 rD (fun _ => True) := by
  intro es h
  obtain ⟨hl, hf⟩ := h.struct Tryz.underlying25
  rw [show Tryz.prog.cellsOf 25 = 3 from by kernel_rfl] at hl
  have h0 := hf _ (List.mem_cons_self ..)
  simp only [show Tryz.prog.cellsOf 3 = 1 from by kernel_rfl] at h0
  obtain ⟨v0, r0⟩ := cells_int Tryz.underlying3 h0
  have h1 := hf _ (List.mem_cons_of_mem _ (List.mem_cons_self ..))
  simp only [show Tryz.prog.cellsOf 9 = 1 from by kernel_rfl] at h1
  obtain ⟨v1, r1⟩ := cells_str Tryz.underlying9 h1
  have h2 := hf _ (List.mem_cons_of_mem _ (List.mem_cons_of_mem _ (List.mem_cons_self ..)))
  simp only [show Tryz.prog.cellsOf 9 = 1 from by kernel_rfl] at h2
  obtain ⟨v2, r2⟩ := cells_str Tryz.underlying9 h2
  exact ⟨⟨v0, v1, v2⟩, reps_cut (o := 0) (k := 1) r0 (reps_cut (o := 1) (k := 1) r1 (reps_cut (o := 2) (k := 1) r2 (reps_end hl))), trivial⟩
theorem pair_cells (w : World) : Cells Tryz.prog w 131 pairD (fun _ => True) := by
  intro es h
  obtain ⟨hl, hf⟩ := h.struct Tryz.underlying131
  rw [show Tryz.prog.cellsOf 131 = 2 from by kernel_rfl] at hl
  have h0 := hf _ (List.mem_cons_self ..)
  simp only [show Tryz.prog.cellsOf 9 = 1 from by kernel_rfl] at h0
  obtain ⟨v0, r0⟩ := cells_str Tryz.underlying9 h0
  have h1 := hf _ (List.mem_cons_of_mem _ (List.mem_cons_self ..))
  simp only [show Tryz.prog.cellsOf 9 = 1 from by kernel_rfl] at h1
  obtain ⟨v1, r1⟩ := cells_str Tryz.underlying9 h1
  exact ⟨(v0, v1), reps_cut (o := 0) (k := 1) r0 (reps_cut (o := 1) (k := 1) r1 (reps_end hl)), trivial⟩
theorem field_cells (w : World) : Cells Tryz.prog w 28 fD (fun _ => True) := by
  intro es h
  obtain ⟨hl, hf⟩ := h.struct Tryz.underlying28
  rw [show Tryz.prog.cellsOf 28 = 7 from by kernel_rfl] at hl
  have h0 := hf _ (List.mem_cons_self ..)
  simp only [show Tryz.prog.cellsOf 25 = 3 from by kernel_rfl] at h0
  obtain ⟨v0, r0, _⟩ := ref_cells w _ h0
  have h1 := hf _ (List.mem_cons_of_mem _ (List.mem_cons_self ..))
  simp only [show Tryz.prog.cellsOf 3 = 1 from by kernel_rfl] at h1
  obtain ⟨v1, r1⟩ := cells_int Tryz.underlying3 h1
  have h2 := hf _ (List.mem_cons_of_mem _ (List.mem_cons_of_mem _ (List.mem_cons_self ..)))
  simp only [show Tryz.prog.cellsOf 9 = 1 from by kernel_rfl] at h2
  obtain ⟨v2, r2⟩ := cells_str Tryz.underlying9 h2
  have h3 := hf _ (List.mem_cons_of_mem _ (List.mem_cons_of_mem _ (List.mem_cons_of_mem _ (List.mem_cons_self ..))))
  simp only [show Tryz.prog.cellsOf 26 = 1 from by kernel_rfl] at h3
  obtain ⟨v3, r3⟩ := cells_row Tryz.underlying26 (show Tryz.prog.cellsOf 9 = 1 from by kernel_rfl) (by omega) (fun _ => rfl) (str_cells w) h3
  have h4 := hf _ (List.mem_cons_of_mem _ (List.mem_cons_of_mem _ (List.mem_cons_of_mem _ (List.mem_cons_of_mem _ (List.mem_cons_self ..)))))
  simp only [show Tryz.prog.cellsOf 2 = 1 from by kernel_rfl] at h4
  obtain ⟨v4, r4⟩ := cells_int Tryz.underlying2 h4
  exact ⟨⟨v0, v1, v2, v3, v4⟩, reps_cut (o := 0) (k := 3) r0 (reps_cut (o := 3) (k := 1) r1 (reps_cut (o := 4) (k := 1) r2 (reps_cut (o := 5) (k := 1) r3 (reps_cut (o := 6) (k := 1) r4 (reps_end hl))))), trivial⟩
theorem lens_cells (w : World) : Cells Tryz.prog w 31 lD (fun _ => True) := by
  intro es h
  obtain ⟨hl, hf⟩ := h.struct Tryz.underlying31
  rw [show Tryz.prog.cellsOf 31 = 16 from by kernel_rfl] at hl
  have h0 := hf _ (List.mem_cons_self ..)
  simp only [show Tryz.prog.cellsOf 3 = 1 from by kernel_rfl] at h0
  obtain ⟨v0, r0⟩ := cells_int Tryz.underlying3 h0
  have h1 := hf _ (List.mem_cons_of_mem _ (List.mem_cons_self ..))
  simp only [show Tryz.prog.cellsOf 25 = 3 from by kernel_rfl] at h1
  obtain ⟨v1, r1, _⟩ := ref_cells w _ h1
  have h2 := hf _ (List.mem_cons_of_mem _ (List.mem_cons_of_mem _ (List.mem_cons_self ..)))
  simp only [show Tryz.prog.cellsOf 9 = 1 from by kernel_rfl] at h2
  obtain ⟨v2, r2⟩ := cells_str Tryz.underlying9 h2
  have h3 := hf _ (List.mem_cons_of_mem _ (List.mem_cons_of_mem _ (List.mem_cons_of_mem _ (List.mem_cons_self ..))))
  simp only [show Tryz.prog.cellsOf 9 = 1 from by kernel_rfl] at h3
  obtain ⟨v3, r3⟩ := cells_str Tryz.underlying9 h3
  have h4 := hf _ (List.mem_cons_of_mem _ (List.mem_cons_of_mem _ (List.mem_cons_of_mem _ (List.mem_cons_of_mem _ (List.mem_cons_self ..)))))
  simp only [show Tryz.prog.cellsOf 2 = 1 from by kernel_rfl] at h4
  obtain ⟨v4, r4⟩ := cells_int Tryz.underlying2 h4
  have h5 := hf _ (List.mem_cons_of_mem _ (List.mem_cons_of_mem _ (List.mem_cons_of_mem _ (List.mem_cons_of_mem _ (List.mem_cons_of_mem _ (List.mem_cons_self ..))))))
  simp only [show Tryz.prog.cellsOf 28 = 7 from by kernel_rfl] at h5
  obtain ⟨v5, r5, _⟩ := field_cells w _ h5
  have h6 := hf _ (List.mem_cons_of_mem _ (List.mem_cons_of_mem _ (List.mem_cons_of_mem _ (List.mem_cons_of_mem _ (List.mem_cons_of_mem _ (List.mem_cons_of_mem _ (List.mem_cons_self ..)))))))
  simp only [show Tryz.prog.cellsOf 29 = 1 from by kernel_rfl] at h6
  obtain ⟨v6, r6⟩ := cells_row Tryz.underlying29 (show Tryz.prog.cellsOf 131 = 2 from by kernel_rfl) (by omega) (fun _ => rfl) (pair_cells w) h6
  have h7 := hf _ (List.mem_cons_of_mem _ (List.mem_cons_of_mem _ (List.mem_cons_of_mem _ (List.mem_cons_of_mem _ (List.mem_cons_of_mem _ (List.mem_cons_of_mem _ (List.mem_cons_of_mem _ (List.mem_cons_self ..))))))))
  simp only [show Tryz.prog.cellsOf 29 = 1 from by kernel_rfl] at h7
  obtain ⟨v7, r7⟩ := cells_row Tryz.underlying29 (show Tryz.prog.cellsOf 131 = 2 from by kernel_rfl) (by omega) (fun _ => rfl) (pair_cells w) h7
  exact ⟨⟨v0, v1, v2, v3, v4, v5, v6, v7⟩, reps_cut (o := 0) (k := 1) r0 (reps_cut (o := 1) (k := 3) r1 (reps_cut (o := 4) (k := 1) r2 (reps_cut (o := 5) (k := 1) r3 (reps_cut (o := 6) (k := 1) r4 (reps_cut (o := 7) (k := 7) r5 (reps_cut (o := 14) (k := 1) r6 (reps_cut (o := 15) (k := 1) r7 (reps_end hl)))))))), trivial⟩
theorem tag_cells (w : World) : Cells Tryz.prog w 23 tD (fun _ => True) := by
  intro es h
  obtain ⟨hl, hf⟩ := h.struct Tryz.underlying23
  rw [show Tryz.prog.cellsOf 23 = 2 from by kernel_rfl] at hl
  have h0 := hf _ (List.mem_cons_self ..)
  simp only [show Tryz.prog.cellsOf 3 = 1 from by kernel_rfl] at h0
  obtain ⟨v0, r0⟩ := cells_int Tryz.underlying3 h0
  have h1 := hf _ (List.mem_cons_of_mem _ (List.mem_cons_self ..))
  simp only [show Tryz.prog.cellsOf 3 = 1 from by kernel_rfl] at h1
  obtain ⟨v1, r1⟩ := cells_int Tryz.underlying3 h1
  exact ⟨⟨v0, v1⟩, reps_cut (o := 0) (k := 1) r0 (reps_cut (o := 1) (k := 1) r1 (reps_end hl)), trivial⟩
theorem edge_cells (w : World) : Cells Tryz.prog w 33 eD (fun _ => True) := by
  intro es h
  obtain ⟨hl, hf⟩ := h.struct Tryz.underlying33
  rw [show Tryz.prog.cellsOf 33 = 20 from by kernel_rfl] at hl
  have h0 := hf _ (List.mem_cons_self ..)
  simp only [show Tryz.prog.cellsOf 23 = 2 from by kernel_rfl] at h0
  obtain ⟨v0, r0, _⟩ := tag_cells w _ h0
  have h1 := hf _ (List.mem_cons_of_mem _ (List.mem_cons_self ..))
  simp only [show Tryz.prog.cellsOf 23 = 2 from by kernel_rfl] at h1
  obtain ⟨v1, r1, _⟩ := tag_cells w _ h1
  have h2 := hf _ (List.mem_cons_of_mem _ (List.mem_cons_of_mem _ (List.mem_cons_self ..)))
  simp only [show Tryz.prog.cellsOf 31 = 16 from by kernel_rfl] at h2
  obtain ⟨v2, r2, _⟩ := lens_cells w _ h2
  exact ⟨⟨v0, v1, v2⟩, reps_cut (o := 0) (k := 2) r0 (reps_cut (o := 2) (k := 2) r1 (reps_cut (o := 4) (k := 16) r2 (reps_end hl))), trivial⟩

end Go.Vm
end
section
namespace Go.Vm
open Go.RowKit Go.Proofs
set_option linter.unusedVariables false
set_option linter.unusedSimpArgs false
set_option maxRecDepth 10000

end Go.Vm
namespace Go.Proofs.YtmmffeldlhofiaaGreatDoor
open Go.RowKit Go.Vm
theorem sketchEdges_walk (s0 : Array Value) (a1 : ByteArray) (w : World) (r0 : Reads Tryz.prog w 33 s0.toList) (_w1 : a1.size ≤ maxLen) :
    Calls Tryz.prog 3 #[.agg s0, .string a1] w fun e w' => e = .returned (.bool true) ∧ Below w.heap.size w w' := by
  obtain ⟨x0, hx0, o0⟩ := edge_cells w _ r0
  have hx0 := rep_agg hx0
  refine law_true (sketchEdges_any x0 a1) rfl ?_
  intro i v d hv hd
  match i, hv, hd with
  | 0, hv, hd => simp at hv hd; subst hv hd; exact hx0
  | 1, hv, hd => simp at hv hd; subst hv hd; exact Rep.sc rfl
  | i + 2, hv, _ => simp at hv
end Go.Proofs.YtmmffeldlhofiaaGreatDoor
namespace Go.Vm

end Go.Vm
end
