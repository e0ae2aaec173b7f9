/- Part 6 of what the proof of SketchTrees stands on: SkD, TrSortP, TrRefP, TrStaysP, TrOrdersP, SkF, SkW2, SkW6, TrEq, TrTags, TrEdge, SkW7, SkW3, SkW8, SkW9, SkWa, SkWb, SkR1, SkR2. -/
import Derived.Test.YtmmffeldlhofiaaGreatDoorSketchTreesM5
set_option linter.unusedVariables false
set_option linter.unusedSimpArgs false
set_option maxHeartbeats 1000000
section
namespace Go.Vm
open Go.Proofs.YtmmffeldlhofiaaGreatDoor Punnet.Name Punnet.Num
theorem num_back {s : ByteArray} (h : (numW s).2 = 0) : printB (numW s).1 = s ∧ inI64 (numW s).1 := by
  obtain ⟨h1, h2, h3⟩ := read_print h
  exact ⟨ba_ext (by rw [printB_data]; exact h1), ⟨h2, by show (readOf s.data.toList).1 < _; omega⟩⟩
theorem words2 {w : List ByteArray} (h : w.length = 2) : w = [wd w 0, wd w 1] := by
  rcases w with _ | ⟨a, _ | ⟨b, _ | ⟨c, r⟩⟩⟩ <;> simp at h <;> first | rfl | omega
theorem words3 {w : List ByteArray} (h : w.length = 3) : w = [wd w 0, wd w 1, wd w 2] := by
  rcases w with _ | ⟨a, _ | ⟨b, _ | ⟨c, _ | ⟨d, r⟩⟩⟩⟩ <;> simp at h <;> first | rfl | omega
theorem words4 {w : List ByteArray} (h : w.length = 4) : w = [wd w 0, wd w 1, wd w 2, wd w 3] := by
  rcases w with _ | ⟨a, _ | ⟨b, _ | ⟨c, _ | ⟨d, _ | ⟨e, r⟩⟩⟩⟩⟩ <;> simp at h <;> first | rfl | omega
theorem words5 {w : List ByteArray} (h : w.length = 5) : w = [wd w 0, wd w 1, wd w 2, wd w 3, wd w 4] := by
  rcases w with _ | ⟨a, _ | ⟨b, _ | ⟨c, _ | ⟨d, _ | ⟨e, _ | ⟨f, r⟩⟩⟩⟩⟩⟩ <;> simp at h <;> first | rfl | omega
theorem words6 {w : List ByteArray} (h : w.length = 6) : w = [wd w 0, wd w 1, wd w 2, wd w 3, wd w 4, wd w 5] := by
  rcases w with _ | ⟨a, _ | ⟨b, _ | ⟨c, _ | ⟨d, _ | ⟨e, _ | ⟨f, _ | ⟨g, r⟩⟩⟩⟩⟩⟩⟩ <;> simp at h <;> first | rfl | omega
theorem words_drop1 {w : List ByteArray} (h : 0 < w.length) : w = wd w 0 :: w.drop 1 := by
  rcases w with _ | ⟨a, r⟩ <;> simp at h <;> rfl
theorem words_drop2 {w : List ByteArray} (h : 1 < w.length) : w = wd w 0 :: wd w 1 :: w.drop 2 := by
  rcases w with _ | ⟨a, _ | ⟨b, r⟩⟩ <;> simp at h <;> rfl
noncomputable abbrev atR (w : List ByteArray) : RefD := (placeOf (wd w 1)).getD noRef
theorem atR_some {w : List ByteArray} (h : (placeOf (wd w 1)).isSome = true) : placeB (atR w) = true ∧ placeT (atR w) = wd w 1 := by
  cases hq : placeOf (wd w 1) with
  | none => rw [hq] at h; cases h
  | some r => rw [show atR w = r by unfold atR; rw [hq]; rfl]; exact placeOf_inv hq
noncomputable def parseRF (w : List ByteArray) : FieldD × Bool :=
  if w.length < 2 then (noField, false)
  else if wd w 0 = (⟨#[99, 111, 117, 110, 116, 101, 114]⟩ : ByteArray) then if ¬ w.length = 3 then (⟨atR w, 1, noB, [], 0⟩, false) else (⟨atR w, 1, noB, [], (numW (wd w 2)).1⟩, ((placeOf (wd w 1)).isSome && decide ((numW (wd w 2)).2 = 0)) && rightF ⟨atR w, 1, noB, [], (numW (wd w 2)).1⟩)
  else if wd w 0 = (⟨#[114, 101, 103, 105, 115, 116, 101, 114]⟩ : ByteArray) then if ¬ w.length = 3 then (⟨atR w, 2, noB, [], 0⟩, false) else (⟨atR w, 2, (quotedR (wd w 2)).1, [], 0⟩, ((placeOf (wd w 1)).isSome && (quotedR (wd w 2)).2) && rightF ⟨atR w, 2, (quotedR (wd w 2)).1, [], 0⟩)
  else if wd w 0 = (⟨#[101, 110, 117, 109]⟩ : ByteArray) then if ¬ w.length = 4 then (⟨atR w, 3, noB, [], 0⟩, false) else (⟨atR w, 3, wd w 2, splitW 44 (wd w 3), 0⟩, (placeOf (wd w 1)).isSome && rightF ⟨atR w, 3, wd w 2, splitW 44 (wd w 3), 0⟩)
  else if wd w 0 = (⟨#[108, 105, 115, 116]⟩ : ByteArray) then (⟨atR w, 4, noB, [], 0⟩, ((placeOf (wd w 1)).isSome && decide (w.length = 2)) && rightF ⟨atR w, 4, noB, [], 0⟩)
  else (⟨atR w, 0, noB, [], 0⟩, (placeOf (wd w 1)).isSome && rightF ⟨atR w, 0, noB, [], 0⟩)
theorem parseRF_yes {w : List ByteArray} (h : (parseRF w).2 = true) : rightF (parseRF w).1 = true ∧ fieldW (parseRF w).1 = w := by
  unfold parseRF at h ⊢
  by_cases hl : w.length < 2
  · rw [if_pos hl] at h; cases h
  rw [if_neg hl] at h ⊢
  by_cases h1 : wd w 0 = (⟨#[99, 111, 117, 110, 116, 101, 114]⟩ : ByteArray)
  · rw [if_pos h1] at h ⊢
    by_cases h2 : w.length = 3
    · rw [if_neg (fun k => k h2)] at h ⊢
      simp only [Bool.and_eq_true, decide_eq_true_eq] at h ⊢
      refine ⟨h.2, ?_⟩
      obtain ⟨p1, p2⟩ := atR_some h.1.1
      conv => rhs; rw [words3 h2]
      rw [show ∀ r n, fieldW ⟨r, 1, noB, [], n⟩ = [(⟨#[99, 111, 117, 110, 116, 101, 114]⟩ : ByteArray), placeT r, printB n] from fun _ _ => rfl, p2, (num_back h.1.2).1, h1]
    · rw [if_pos h2] at h; cases h
  rw [if_neg h1] at h ⊢
  by_cases h2 : wd w 0 = (⟨#[114, 101, 103, 105, 115, 116, 101, 114]⟩ : ByteArray)
  · rw [if_pos h2] at h ⊢
    by_cases h3 : w.length = 3
    · rw [if_neg (fun k => k h3)] at h ⊢
      simp only [Bool.and_eq_true] at h ⊢
      refine ⟨h.2, ?_⟩
      obtain ⟨p1, p2⟩ := atR_some h.1.1
      conv => rhs; rw [words3 h3]
      rw [show ∀ r n, fieldW ⟨r, 2, n, [], 0⟩ = [(⟨#[114, 101, 103, 105, 115, 116, 101, 114]⟩ : ByteArray), placeT r, quoteB n] from fun _ _ => rfl, p2, (quotedR_text h.1.2).1, h2]
    · rw [if_pos h3] at h; cases h
  rw [if_neg h2] at h ⊢
  by_cases h3 : wd w 0 = (⟨#[101, 110, 117, 109]⟩ : ByteArray)
  · rw [if_pos h3] at h ⊢
    by_cases h4 : w.length = 4
    · rw [if_neg (fun k => k h4)] at h ⊢
      simp only [Bool.and_eq_true] at h ⊢
      refine ⟨h.2, ?_⟩
      obtain ⟨p1, p2⟩ := atR_some h.1
      conv => rhs; rw [words4 h4]
      rw [show ∀ r n l, fieldW ⟨r, 3, n, l, 0⟩ = [(⟨#[101, 110, 117, 109]⟩ : ByteArray), placeT r, n, joinW 44 l] from fun _ _ _ => rfl, p2, joinW_splitW, h3]
    · rw [if_pos h4] at h; cases h
  rw [if_neg h3] at h ⊢
  by_cases h4 : wd w 0 = (⟨#[108, 105, 115, 116]⟩ : ByteArray)
  · rw [if_pos h4] at h ⊢
    simp only [Bool.and_eq_true, decide_eq_true_eq] at h ⊢
    refine ⟨h.2, ?_⟩
    obtain ⟨p1, p2⟩ := atR_some h.1.1
    conv => rhs; rw [words2 h.1.2]
    rw [show ∀ r, fieldW ⟨r, 4, noB, [], 0⟩ = [(⟨#[108, 105, 115, 116]⟩ : ByteArray), placeT r] from fun _ => rfl, p2, h4]
  · rw [if_neg h4] at h
    simp only [Bool.and_eq_true] at h
    have := rf_of h.2
    cases this
theorem scan_quote {s : ByteArray} (h : s.size ≤ 40) : scanOf (quoteB s) 0 = (s, (quoteB s).size, 0) := by
  have hd : (quoteB s).data.toList = quoteL s.data.toList := mkB_data _
  have hq := quotedAt_quote (l := (quoteB s).data.toList) (r := []) s.data.toList 0 (by rw [List.drop_zero, hd, List.append_nil])
  have h0 := scanOf_fine (s := quoteB s) (k := 0) (Nat.zero_le _) hq (by rw [ba_len]; omega)
  rw [show ((0 : Nat) : Int) = 0 from rfl] at h0
  rw [h0, show (⟨s.data.toList.toArray⟩ : ByteArray) = s from mkB_of s, Nat.zero_add, quote_size]
theorem quoted_quote {s : ByteArray} (h : s.size ≤ 40) : quotedR (quoteB s) = (s, true) := by
  unfold quotedR
  rw [scan_quote h]
  simp
theorem parseRF_back {f : FieldD} (h : rightF f = true) : parseRF (fieldW f) = (f, true) := by
  cases rf_of h with
  | counter r n hp hn =>
    rw [show fieldW ⟨r, 1, noB, [], n⟩ = [(⟨#[99, 111, 117, 110, 116, 101, 114]⟩ : ByteArray), placeT r, printB n] from rfl]
    unfold parseRF
    rw [if_neg (by simp), show wd [(⟨#[99, 111, 117, 110, 116, 101, 114]⟩ : ByteArray), placeT r, printB n] 0 = (⟨#[99, 111, 117, 110, 116, 101, 114]⟩ : ByteArray) from rfl, if_pos rfl, if_neg (fun k => k rfl), show atR [(⟨#[99, 111, 117, 110, 116, 101, 114]⟩ : ByteArray), placeT r, printB n] = r by unfold atR; rw [show wd [(⟨#[99, 111, 117, 110, 116, 101, 114]⟩ : ByteArray), placeT r, printB n] 1 = placeT r from rfl, placeOf_some hp rfl]; rfl,
      show wd [(⟨#[99, 111, 117, 110, 116, 101, 114]⟩ : ByteArray), placeT r, printB n] 2 = printB n from rfl, num_print hn, h, show wd [(⟨#[99, 111, 117, 110, 116, 101, 114]⟩ : ByteArray), placeT r, printB n] 1 = placeT r from rfl, placeOf_some hp rfl]; rfl
  | register r d hp hd =>
    rw [show fieldW ⟨r, 2, d, [], 0⟩ = [(⟨#[114, 101, 103, 105, 115, 116, 101, 114]⟩ : ByteArray), placeT r, quoteB d] from rfl]
    unfold parseRF
    rw [if_neg (by simp), show wd [(⟨#[114, 101, 103, 105, 115, 116, 101, 114]⟩ : ByteArray), placeT r, quoteB d] 0 = (⟨#[114, 101, 103, 105, 115, 116, 101, 114]⟩ : ByteArray) from rfl, if_neg (by decide +kernel), if_pos rfl, if_neg (fun k => k rfl), show atR [(⟨#[114, 101, 103, 105, 115, 116, 101, 114]⟩ : ByteArray), placeT r, quoteB d] = r by unfold atR; rw [show wd [(⟨#[114, 101, 103, 105, 115, 116, 101, 114]⟩ : ByteArray), placeT r, quoteB d] 1 = placeT r from rfl, placeOf_some hp rfl]; rfl,
      show wd [(⟨#[114, 101, 103, 105, 115, 116, 101, 114]⟩ : ByteArray), placeT r, quoteB d] 2 = quoteB d from rfl, quoted_quote hd, h, show wd [(⟨#[114, 101, 103, 105, 115, 116, 101, 114]⟩ : ByteArray), placeT r, quoteB d] 1 = placeT r from rfl, placeOf_some hp rfl]; rfl
  | enum r d l hp hl hd =>
    rw [show fieldW ⟨r, 3, d, l, 0⟩ = [(⟨#[101, 110, 117, 109]⟩ : ByteArray), placeT r, d, joinW 44 l] from rfl]
    unfold parseRF
    rw [if_neg (by simp), show wd [(⟨#[101, 110, 117, 109]⟩ : ByteArray), placeT r, d, joinW 44 l] 0 = (⟨#[101, 110, 117, 109]⟩ : ByteArray) from rfl, if_neg (by decide +kernel), if_neg (by decide +kernel), if_pos rfl, if_neg (fun k => k rfl), show atR [(⟨#[101, 110, 117, 109]⟩ : ByteArray), placeT r, d, joinW 44 l] = r by unfold atR; rw [show wd [(⟨#[101, 110, 117, 109]⟩ : ByteArray), placeT r, d, joinW 44 l] 1 = placeT r from rfl, placeOf_some hp rfl]; rfl,
      show wd [(⟨#[101, 110, 117, 109]⟩ : ByteArray), placeT r, d, joinW 44 l] 2 = d from rfl, show wd [(⟨#[101, 110, 117, 109]⟩ : ByteArray), placeT r, d, joinW 44 l] 3 = joinW 44 l from rfl, cases_split hl, h, show wd [(⟨#[101, 110, 117, 109]⟩ : ByteArray), placeT r, d, joinW 44 l] 1 = placeT r from rfl, placeOf_some hp rfl]; rfl
  | list r hp =>
    rw [show fieldW ⟨r, 4, noB, [], 0⟩ = [(⟨#[108, 105, 115, 116]⟩ : ByteArray), placeT r] from rfl]
    unfold parseRF
    rw [if_neg (by simp), show wd [(⟨#[108, 105, 115, 116]⟩ : ByteArray), placeT r] 0 = (⟨#[108, 105, 115, 116]⟩ : ByteArray) from rfl, if_neg (by decide +kernel), if_neg (by decide +kernel), if_neg (by decide +kernel), if_pos rfl, show atR [(⟨#[108, 105, 115, 116]⟩ : ByteArray), placeT r] = r by unfold atR; rw [show wd [(⟨#[108, 105, 115, 116]⟩ : ByteArray), placeT r] 1 = placeT r from rfl, placeOf_some hp rfl]; rfl,
      h, show wd [(⟨#[108, 105, 115, 116]⟩ : ByteArray), placeT r] 1 = placeT r from rfl, placeOf_some hp rfl]; rfl
-- lenses
def twoR (p : ByteArray) : ByteArray × ByteArray := (wd (splitW 62 p) 0, wd (splitW 62 p) 1)
def tableR (s : ByteArray) : List (ByteArray × ByteArray) × Bool := if (splitW 44 s).all (fun p => decide ((splitW 62 p).length = 2)) then ((splitW 44 s).map twoR, true) else ([], false)
theorem two_back {p : ByteArray} (h : (splitW 62 p).length = 2) : pairT (twoR p) = p := by
  have e : p = joinW 62 [(twoR p).1, (twoR p).2] := by
    conv => lhs; rw [← joinW_splitW (c := 62) p, words2 h]
    rfl
  conv => rhs; rw [e]
  apply ba_ext
  unfold pairT
  rw [mkB_data, joinW_data]; rfl
theorem table_back {s : ByteArray} (h : (tableR s).2 = true) : pairsT (tableR s).1 = s := by
  unfold tableR at h ⊢
  split at h
  · rename_i ha
    rw [if_pos ha]
    unfold pairsT
    rw [List.map_map, show (splitW 44 s).map (pairT ∘ twoR) = splitW 44 s from ?_, joinW_splitW]
    conv => rhs; rw [← List.map_id (splitW 44 s)]
    exact List.map_congr_left fun p hp => two_back (by have := List.all_eq_true.1 ha p hp; simpa using this)
  · cases h
theorem pair_two {p : ByteArray × ByteArray} (h1 : nameB p.1 = true) (h2 : nameB p.2 = true) : splitW 62 (pairT p) = [p.1, p.2] := by
  have := splitW_joinW (c := 62) (l := [p.1, p.2]) (by simp) (by simp only [List.forall_mem_cons, List.not_mem_nil, false_implies, implies_true, and_true]; exact ⟨nameB_free h1 (by decide), nameB_free h2 (by decide)⟩)
  rwa [show joinW 62 [p.1, p.2] = pairT p from rfl] at this
theorem table_print {a b : List (ByteArray × ByteArray)} (h : rightT a b = true) (k : rightT b a = true) : tableR (pairsT a) = (a, true) := by
  obtain ⟨hne, hn⟩ := rightT_names h k
  have hs : splitW 44 (pairsT a) = a.map pairT := splitW_joinW (by simpa using hne) fun w hw => by
    obtain ⟨p, hp, rfl⟩ := List.mem_map.1 hw
    unfold pairT
    rw [mkB_data]
    intro q
    rcases List.mem_append.1 q with q | q
    · exact nameB_free (hn p hp).1 (by decide) q
    · rcases List.mem_cons.1 q with q | q
      · exact absurd q (by decide)
      · exact nameB_free (hn p hp).2 (by decide) q
  unfold tableR
  rw [hs, if_pos]
  · congr 1
    rw [List.map_map]
    conv => rhs; rw [← List.map_id a]
    exact List.map_congr_left fun p hp => by show twoR (pairT p) = p; unfold twoR; rw [pair_two (hn p hp).1 (hn p hp).2]; rfl
  · rw [List.all_eq_true]
    intro w hw
    obtain ⟨p, hp, rfl⟩ := List.mem_map.1 hw
    exact decide_eq_true (by rw [pair_two (hn p hp).1 (hn p hp).2]; rfl)
def kindR (v : ByteArray) : Int :=
  if v = (⟨#[114, 101, 110, 97, 109, 101]⟩ : ByteArray) then 1 else if v = (⟨#[97, 100, 100]⟩ : ByteArray) then 2 else if v = (⟨#[114, 101, 109, 111, 118, 101]⟩ : ByteArray) then 3 else if v = (⟨#[104, 111, 105, 115, 116]⟩ : ByteArray) then 4 else if v = (⟨#[112, 108, 117, 110, 103, 101]⟩ : ByteArray) then 5 else if v = (⟨#[115, 112, 108, 105, 116]⟩ : ByteArray) then 6 else if v = (⟨#[119, 114, 97, 112]⟩ : ByteArray) then 7 else if v = (⟨#[99, 111, 110, 118, 101, 114, 116]⟩ : ByteArray) then 8 else if v = (⟨#[109, 101, 114, 103, 101]⟩ : ByteArray) then 9 else if v = (⟨#[117, 110, 119, 114, 97, 112]⟩ : ByteArray) then 10 else 0
def wordsR (k : Int) : Nat := if k = 1 then 3 else if k = 4 then 2 else if k = 5 then 3 else if k = 6 then 5 else if k = 7 then 3 else if k = 8 then 6 else if k = 9 then 5 else if k = 10 then 3 else 0
def verbR (k : Int) : ByteArray := if k = 1 then (⟨#[114, 101, 110, 97, 109, 101]⟩ : ByteArray) else if k = 2 then (⟨#[97, 100, 100]⟩ : ByteArray) else if k = 3 then (⟨#[114, 101, 109, 111, 118, 101]⟩ : ByteArray) else if k = 4 then (⟨#[104, 111, 105, 115, 116]⟩ : ByteArray) else if k = 5 then (⟨#[112, 108, 117, 110, 103, 101]⟩ : ByteArray) else if k = 6 then (⟨#[115, 112, 108, 105, 116]⟩ : ByteArray) else if k = 7 then (⟨#[119, 114, 97, 112]⟩ : ByteArray) else if k = 8 then (⟨#[99, 111, 110, 118, 101, 114, 116]⟩ : ByteArray) else if k = 9 then (⟨#[109, 101, 114, 103, 101]⟩ : ByteArray) else if k = 10 then (⟨#[117, 110, 119, 114, 97, 112]⟩ : ByteArray) else noB
theorem kindR_cases (v : ByteArray) : kindR v = 0 ∨ (1 ≤ kindR v ∧ kindR v ≤ 10 ∧ v = verbR (kindR v)) := by
  have key : ∀ k : Int, kindR v = k → (k = 0 ∨ (1 ≤ k ∧ k ≤ 10 ∧ v = verbR k)) := by
    intro k hk
    unfold kindR at hk
    split at hk
    · rename_i e; subst hk; exact .inr ⟨by decide, by decide, e.trans (by decide +kernel)⟩
    split at hk
    · rename_i e; subst hk; exact .inr ⟨by decide, by decide, e.trans (by decide +kernel)⟩
    split at hk
    · rename_i e; subst hk; exact .inr ⟨by decide, by decide, e.trans (by decide +kernel)⟩
    split at hk
    · rename_i e; subst hk; exact .inr ⟨by decide, by decide, e.trans (by decide +kernel)⟩
    split at hk
    · rename_i e; subst hk; exact .inr ⟨by decide, by decide, e.trans (by decide +kernel)⟩
    split at hk
    · rename_i e; subst hk; exact .inr ⟨by decide, by decide, e.trans (by decide +kernel)⟩
    split at hk
    · rename_i e; subst hk; exact .inr ⟨by decide, by decide, e.trans (by decide +kernel)⟩
    split at hk
    · rename_i e; subst hk; exact .inr ⟨by decide, by decide, e.trans (by decide +kernel)⟩
    split at hk
    · rename_i e; subst hk; exact .inr ⟨by decide, by decide, e.trans (by decide +kernel)⟩
    split at hk
    · rename_i e; subst hk; exact .inr ⟨by decide, by decide, e.trans (by decide +kernel)⟩
    exact .inl hk.symm
  exact key _ rfl
def oneOf (k : Int) (l : List Int) : Bool := l.any fun j => decide (k = j)
noncomputable def partsR (k : Int) (w : List ByteArray) : LensD :=
  ⟨k, atR w, if oneOf k [1, 5, 6, 8, 9] then wd w 2 else noB, if oneOf k [7, 10] then (quotedR (wd w 2)).1 else if oneOf k [6, 8, 9] then wd w 3 else noB, if oneOf k [6, 9] then (numW (wd w 4)).1 else 0, noField, if k = 8 then (tableR (wd w 4)).1 else [], if k = 8 then (tableR (wd w 5)).1 else []⟩
def okR (k : Int) (w : List ByteArray) : Bool := if oneOf k [7, 10] then (quotedR (wd w 2)).2 else if oneOf k [6, 9] then decide ((numW (wd w 4)).2 = 0) else if k = 8 then (tableR (wd w 4)).2 && (tableR (wd w 5)).2 else true
noncomputable def parseRL (w : List ByteArray) : LensD × Bool :=
  if kindR (wd w 0) = 0 then (noLens, false)
  else if kindR (wd w 0) = 2 ∨ kindR (wd w 0) = 3 then (⟨kindR (wd w 0), noRef, noB, noB, 0, (parseRF (w.drop 1)).1, [], []⟩, (parseRF (w.drop 1)).2)
  else if ¬ w.length = wordsR (kindR (wd w 0)) then (⟨kindR (wd w 0), noRef, noB, noB, 0, noField, [], []⟩, false)
  else (partsR (kindR (wd w 0)) w, ((placeOf (wd w 1)).isSome && okR (kindR (wd w 0)) w) && rightL (partsR (kindR (wd w 0)) w))
theorem parseRL_yes {w : List ByteArray} (h : (parseRL w).2 = true) : rightL (parseRL w).1 = true ∧ lensW (parseRL w).1 = w := by
  unfold parseRL at h ⊢
  by_cases h0 : kindR (wd w 0) = 0
  · rw [if_pos h0] at h; cases h
  rw [if_neg h0] at h ⊢
  obtain ⟨k1, k10, hv⟩ := (kindR_cases (wd w 0)).resolve_left h0
  have hpos : 0 < w.length := by
    rcases w with _ | ⟨a, r⟩
    · exact absurd (by decide +kernel) h0
    · simp
  generalize kindR (wd w 0) = k at *
  by_cases h1 : k = 2 ∨ k = 3
  · rw [if_pos h1] at h ⊢
    obtain ⟨p1, p2⟩ := parseRF_yes h
    have hw := words_drop1 hpos
    generalize parseRF (w.drop 1) = q at *
    rcases h1 with rfl | rfl
    · refine ⟨by unfold rightL; rw [if_pos (.inl rfl)]; simp [p1], ?_⟩
      show (⟨#[97, 100, 100]⟩ : ByteArray) :: fieldW q.1 = w
      rw [p2]; conv => rhs; rw [hw, hv]
      rfl
    · refine ⟨by unfold rightL; rw [if_pos (.inr rfl)]; simp [p1], ?_⟩
      show (⟨#[114, 101, 109, 111, 118, 101]⟩ : ByteArray) :: fieldW q.1 = w
      rw [p2]; conv => rhs; rw [hw, hv]
      rfl
  rw [if_neg h1] at h ⊢
  by_cases h2 : w.length = wordsR k
  · rw [if_neg (fun q => q h2)] at h ⊢
    simp only [Bool.and_eq_true] at h ⊢
    refine ⟨h.2, ?_⟩
    obtain ⟨p1, p2⟩ := atR_some h.1.1
    have ho := h.1.2
    have hk : k = 1 ∨ k = 4 ∨ k = 5 ∨ k = 6 ∨ k = 7 ∨ k = 8 ∨ k = 9 ∨ k = 10 := by omega
    rcases hk with rfl | rfl | rfl | rfl | rfl | rfl | rfl | rfl
    · conv => rhs; rw [words3 h2, hv, ← p2]
      rfl
    · conv => rhs; rw [words2 h2, hv, ← p2]
      rfl
    · conv => rhs; rw [words3 h2, hv, ← p2]
      rfl
    · conv => rhs; rw [words5 h2, hv, ← p2, ← (num_back (of_decide_eq_true ho)).1]
      rfl
    · conv => rhs; rw [words3 h2, hv, ← p2, ← (quotedR_text ho).1]
      rfl
    · have ho : ((tableR (wd w 4)).2 && (tableR (wd w 5)).2) = true := ho
      rw [Bool.and_eq_true] at ho
      conv => rhs; rw [words6 h2, hv, ← p2, ← table_back ho.1, ← table_back ho.2]
      rfl
    · conv => rhs; rw [words5 h2, hv, ← p2, ← (num_back (of_decide_eq_true ho)).1]
      rfl
    · conv => rhs; rw [words3 h2, hv, ← p2, ← (quotedR_text ho).1]
      rfl
  · rw [if_pos h2] at h; cases h
theorem atR_place {v : ByteArray} {r : RefD} {l : List ByteArray} (h : placeB r = true) : atR (v :: placeT r :: l) = r ∧ (placeOf (wd (v :: placeT r :: l) 1)).isSome = true := by
  have e : placeOf (wd (v :: placeT r :: l) 1) = some r := placeOf_some h rfl
  exact ⟨by unfold atR; rw [e]; rfl, by rw [e]; rfl⟩
theorem parseRL_made {k : Int} {w : List ByteArray} {x : LensD} (hk : kindR (wd w 0) = k) (h1 : 1 ≤ k) (h2 : ¬ (k = 2 ∨ k = 3)) (hl : w.length = wordsR k) (hp : (placeOf (wd w 1)).isSome = true) (ho : okR k w = true) (hx : partsR k w = x) (hr : rightL x = true) : parseRL w = (x, true) := by
  unfold parseRL
  rw [hk, if_neg (by omega), if_neg h2, if_neg (fun q => q hl), hp, ho, hx, hr]; rfl
theorem parseRL_back {x : LensD} (h : rightL x = true) : parseRL (lensW x) = (x, true) := by
  cases rl_of h with
  | add f hf =>
    rw [show lensW ⟨2, noRef, noB, noB, 0, f, [], []⟩ = (⟨#[97, 100, 100]⟩ : ByteArray) :: fieldW f from rfl]
    unfold parseRL
    rw [show kindR (wd ((⟨#[97, 100, 100]⟩ : ByteArray) :: fieldW f) 0) = 2 from (by decide +kernel : kindR (⟨#[97, 100, 100]⟩ : ByteArray) = 2), if_neg (by decide), if_pos (.inl rfl), show ((⟨#[97, 100, 100]⟩ : ByteArray) :: fieldW f).drop 1 = fieldW f from rfl, parseRF_back hf]
  | remove f hf =>
    rw [show lensW ⟨3, noRef, noB, noB, 0, f, [], []⟩ = (⟨#[114, 101, 109, 111, 118, 101]⟩ : ByteArray) :: fieldW f from rfl]
    unfold parseRL
    rw [show kindR (wd ((⟨#[114, 101, 109, 111, 118, 101]⟩ : ByteArray) :: fieldW f) 0) = 3 from (by decide +kernel : kindR (⟨#[114, 101, 109, 111, 118, 101]⟩ : ByteArray) = 3), if_neg (by decide), if_pos (.inr rfl), show ((⟨#[114, 101, 109, 111, 118, 101]⟩ : ByteArray) :: fieldW f).drop 1 = fieldW f from rfl, parseRF_back hf]
  | convert r n o a b hp hn ho h1 h2 =>
    have e1 := table_print h1 h2
    have e2 := table_print h2 h1
    obtain ⟨q1, q2⟩ := atR_place (v := (⟨#[99, 111, 110, 118, 101, 114, 116]⟩ : ByteArray)) (l := [n, o, pairsT a, pairsT b]) hp
    refine parseRL_made (w := [(⟨#[99, 111, 110, 118, 101, 114, 116]⟩ : ByteArray), placeT r, n, o, pairsT a, pairsT b]) (k := 8) (by decide +kernel : kindR (⟨#[99, 111, 110, 118, 101, 114, 116]⟩ : ByteArray) = 8) (by decide) (by decide) rfl q2 ?_ ?_ h
    · show ((tableR (pairsT a)).2 && (tableR (pairsT b)).2) = true
      rw [e1, e2]; rfl
    · show LensD.mk 8 (atR [(⟨#[99, 111, 110, 118, 101, 114, 116]⟩ : ByteArray), placeT r, n, o, pairsT a, pairsT b]) n o 0 noField (tableR (pairsT a)).1 (tableR (pairsT b)).1 = _
      rw [q1, e1, e2]
  | split r n o k hp hn ho hk =>
    obtain ⟨q1, q2⟩ := atR_place (v := (⟨#[115, 112, 108, 105, 116]⟩ : ByteArray)) (l := [n, o, printB k]) hp
    refine parseRL_made (w := [(⟨#[115, 112, 108, 105, 116]⟩ : ByteArray), placeT r, n, o, printB k]) (k := 6) (by decide +kernel : kindR (⟨#[115, 112, 108, 105, 116]⟩ : ByteArray) = 6) (by decide) (by decide) rfl q2 ?_ ?_ h
    · show decide ((numW (printB k)).2 = 0) = true
      rw [num_print hk]; rfl
    · show LensD.mk 6 (atR [(⟨#[115, 112, 108, 105, 116]⟩ : ByteArray), placeT r, n, o, printB k]) n o (numW (printB k)).1 noField [] [] = _
      rw [q1, num_print hk]
  | merge r n o k hp hn ho hk =>
    obtain ⟨q1, q2⟩ := atR_place (v := (⟨#[109, 101, 114, 103, 101]⟩ : ByteArray)) (l := [n, o, printB k]) hp
    refine parseRL_made (w := [(⟨#[109, 101, 114, 103, 101]⟩ : ByteArray), placeT r, n, o, printB k]) (k := 9) (by decide +kernel : kindR (⟨#[109, 101, 114, 103, 101]⟩ : ByteArray) = 9) (by decide) (by decide) rfl q2 ?_ ?_ h
    · show decide ((numW (printB k)).2 = 0) = true
      rw [num_print hk]; rfl
    · show LensD.mk 9 (atR [(⟨#[109, 101, 114, 103, 101]⟩ : ByteArray), placeT r, n, o, printB k]) n o (numW (printB k)).1 noField [] [] = _
      rw [q1, num_print hk]
  | wrap r o hp ho =>
    obtain ⟨q1, q2⟩ := atR_place (v := (⟨#[119, 114, 97, 112]⟩ : ByteArray)) (l := [quoteB o]) hp
    refine parseRL_made (w := [(⟨#[119, 114, 97, 112]⟩ : ByteArray), placeT r, quoteB o]) (k := 7) (by decide +kernel : kindR (⟨#[119, 114, 97, 112]⟩ : ByteArray) = 7) (by decide) (by decide) rfl q2 ?_ ?_ h
    · show (quotedR (quoteB o)).2 = true
      rw [quoted_quote ho]
    · show LensD.mk 7 (atR [(⟨#[119, 114, 97, 112]⟩ : ByteArray), placeT r, quoteB o]) noB (quotedR (quoteB o)).1 0 noField [] [] = _
      rw [q1, quoted_quote ho]
  | unwrap r o hp ho =>
    obtain ⟨q1, q2⟩ := atR_place (v := (⟨#[117, 110, 119, 114, 97, 112]⟩ : ByteArray)) (l := [quoteB o]) hp
    refine parseRL_made (w := [(⟨#[117, 110, 119, 114, 97, 112]⟩ : ByteArray), placeT r, quoteB o]) (k := 10) (by decide +kernel : kindR (⟨#[117, 110, 119, 114, 97, 112]⟩ : ByteArray) = 10) (by decide) (by decide) rfl q2 ?_ ?_ h
    · show (quotedR (quoteB o)).2 = true
      rw [quoted_quote ho]
    · show LensD.mk 10 (atR [(⟨#[117, 110, 119, 114, 97, 112]⟩ : ByteArray), placeT r, quoteB o]) noB (quotedR (quoteB o)).1 0 noField [] [] = _
      rw [q1, quoted_quote ho]
  | rename r n hp hn =>
    obtain ⟨q1, q2⟩ := atR_place (v := (⟨#[114, 101, 110, 97, 109, 101]⟩ : ByteArray)) (l := [n]) hp
    refine parseRL_made (w := [(⟨#[114, 101, 110, 97, 109, 101]⟩ : ByteArray), placeT r, n]) (k := 1) (by decide +kernel : kindR (⟨#[114, 101, 110, 97, 109, 101]⟩ : ByteArray) = 1) (by decide) (by decide) rfl q2 rfl ?_ h
    show LensD.mk 1 (atR [(⟨#[114, 101, 110, 97, 109, 101]⟩ : ByteArray), placeT r, n]) n noB 0 noField [] [] = _
    rw [q1]
  | hoist r hp =>
    obtain ⟨q1, q2⟩ := atR_place (v := (⟨#[104, 111, 105, 115, 116]⟩ : ByteArray)) (l := []) hp
    refine parseRL_made (w := [(⟨#[104, 111, 105, 115, 116]⟩ : ByteArray), placeT r]) (k := 4) (by decide +kernel : kindR (⟨#[104, 111, 105, 115, 116]⟩ : ByteArray) = 4) (by decide) (by decide) rfl q2 rfl ?_ h
    show LensD.mk 4 (atR [(⟨#[104, 111, 105, 115, 116]⟩ : ByteArray), placeT r]) noB noB 0 noField [] [] = _
    rw [q1]
  | plunge r n hp hn =>
    obtain ⟨q1, q2⟩ := atR_place (v := (⟨#[112, 108, 117, 110, 103, 101]⟩ : ByteArray)) (l := [n]) hp
    refine parseRL_made (w := [(⟨#[112, 108, 117, 110, 103, 101]⟩ : ByteArray), placeT r, n]) (k := 5) (by decide +kernel : kindR (⟨#[112, 108, 117, 110, 103, 101]⟩ : ByteArray) = 5) (by decide) (by decide) rfl q2 rfl ?_ h
    show LensD.mk 5 (atR [(⟨#[112, 108, 117, 110, 103, 101]⟩ : ByteArray), placeT r, n]) n noB 0 noField [] [] = _
    rw [q1]
-- edges
theorem edgeR_yes {s : ByteArray} {a b : TagD} (hl : ¬ (splitB s 0).length < 3) (h1 : tagOf (wd (splitB s 0) 0) = some a) (h2 : tagOf (wd (splitB s 0) 1) = some b) (h3 : (parseRL ((splitB s 0).drop 2)).2 = true) (h4 : edgeB ⟨a, b, (parseRL ((splitB s 0).drop 2)).1⟩ = true) : edgeS s = some ⟨a, b, (parseRL ((splitB s 0).drop 2)).1⟩ := by
  refine edgeS_some h4 ?_
  unfold textE edgeW
  rw [(tagOf_inv h1).2, (tagOf_inv h2).2, (parseRL_yes h3).2, ← words_drop2 (by omega)]
  exact join_words s
theorem edgeR_no {s : ByteArray} (h : ∀ e, edgeB e = true → splitB s 0 = edgeW e → tagOf (wd (splitB s 0) 0) = some e.id → tagOf (wd (splitB s 0) 1) = some e.parent → parseRL ((splitB s 0).drop 2) = (e.lens, true) → 3 ≤ (splitB s 0).length → False) : edgeS s = none := pick_none fun e he hs => by
  have hw : splitB s 0 = edgeW e := by rw [← hs]; exact split_line (by unfold edgeW; simp) (edgeW_whole he)
  obtain ⟨t1, t2, hr⟩ := edgeB_tags he
  refine h e he hw ?_ ?_ ?_ ?_
  · rw [hw]; exact tagOf_some t1 rfl
  · rw [hw]; exact tagOf_some t2 rfl
  · rw [hw]; exact parseRL_back hr
  · rw [hw]; have := List.length_pos_iff.2 (lensW_ne hr); show 3 ≤ (lensW e.lens).length + 1 + 1; omega
end Go.Vm
end
section
namespace Go.Vm
theorem lessT_irrefl (a : TagD) : lessT a a = false := by simp [lessT]
theorem lessT_trans {a b c : TagD} (h : lessT a b = true) (k : lessT b c = true) : lessT a c = true := by
  obtain ⟨a1, a2⟩ := a; obtain ⟨b1, b2⟩ := b; obtain ⟨c1, c2⟩ := c
  simp only [lessT] at h k ⊢
  split at h <;> split at k <;> simp only [decide_eq_true_eq] at h k <;> split <;> simp only [decide_eq_true_eq] <;> omega
theorem lessT_total {a b : TagD} (h : lessT a b = false) (k : lessT b a = false) : a = b := by
  obtain ⟨a1, a2⟩ := a; obtain ⟨b1, b2⟩ := b
  simp only [lessT] at h k
  split at h <;> split at k <;> simp only [decide_eq_false_iff_not] at h k <;> simp only [TagD.mk.injEq] <;> omega
theorem lessT_asymm {a b : TagD} (h : lessT a b = true) : lessT b a = false := by
  cases k : lessT b a with
  | false => rfl
  | true => have := lessT_trans h k; rw [lessT_irrefl] at this; cases this
theorem lessT_ntrans {a b c : TagD} (h : lessT a b = false) (k : lessT b c = false) : lessT a c = false := by
  cases hx : lessT a c with
  | false => rfl
  | true =>
    cases h1 : lessT b a with
    | true => have := lessT_trans h1 hx; rw [k] at this; cases this
    | false => obtain rfl := lessT_total h h1; rw [k] at hx; cases hx
def leT (a b : TagD) : Bool := !lessT b a
theorem leT_trans (a b c : TagD) (h : leT a b = true) (k : leT b c = true) : leT a c = true := by
  simp only [leT, Bool.not_eq_true'] at *; exact lessT_ntrans k h
theorem leT_total (a b : TagD) : (leT a b || leT b a) = true := by
  simp only [leT]
  cases h : lessT b a with
  | false => rfl
  | true => rw [lessT_asymm h]; rfl
theorem leT_anti {a b : TagD} (h : leT a b = true) (k : leT b a = true) : a = b := by
  simp only [leT, Bool.not_eq_true'] at *; exact lessT_total k h
def sortT (l : List TagD) : List TagD := l.mergeSort leT
theorem sortT_rises (l : List TagD) : (sortT l).Pairwise fun a b => leT a b = true := List.pairwise_mergeSort leT_trans leT_total l
theorem sortT_perm (l : List TagD) : (sortT l).Perm l := List.mergeSort_perm l leT
theorem rises_one {l l' : List TagD} (h : l.Pairwise fun a b => leT a b = true) (k : l'.Pairwise fun a b => leT a b = true) (hp : l.Perm l') : l = l' :=
  List.Perm.eq_of_pairwise (fun _ _ _ _ h k => leT_anti h k) h k hp
theorem sortT_eq {l l' : List TagD} (h : l.Perm l') : sortT l = sortT l' := rises_one (sortT_rises l) (sortT_rises l') ((sortT_perm l).trans (h.trans (sortT_perm l').symm))
theorem sortT_len (l : List TagD) : (sortT l).length = l.length := (sortT_perm l).length_eq
def insE (e : EdgeD) : List EdgeD → List EdgeD
  | [] => [e]
  | x :: l => if lessT x.id e.id = true then x :: insE e l else e :: x :: l
def sortE (E : List EdgeD) : List EdgeD := E.foldl (fun l e => insE e l) []
theorem insE_perm (e : EdgeD) : ∀ l, (insE e l).Perm (e :: l)
  | [] => .refl _
  | x :: l => by
    unfold insE
    split
    · exact ((insE_perm e l).cons x).trans (List.Perm.swap e x l)
    · exact .refl _
abbrev risesE (l : List EdgeD) : Prop := l.Pairwise fun a b => leT a.id b.id = true
theorem insE_rises (e : EdgeD) : ∀ {l}, risesE l → risesE (insE e l)
  | [], _ => by simp [insE]
  | x :: l, h => by
    unfold insE
    obtain ⟨h1, h2⟩ := List.pairwise_cons.1 h
    split
    · rename_i hlt
      refine List.pairwise_cons.2 ⟨fun y hy => ?_, insE_rises e h2⟩
      rcases List.mem_cons.1 ((insE_perm e l).mem_iff.1 hy) with rfl | hy
      · simp only [leT]; rw [lessT_asymm hlt]; rfl
      · exact h1 y hy
    · rename_i hlt
      have hle : leT e.id x.id = true := by simp only [leT]; simpa using hlt
      refine List.pairwise_cons.2 ⟨fun y hy => ?_, h⟩
      rcases List.mem_cons.1 hy with rfl | hy
      · exact hle
      · exact leT_trans _ _ _ hle (h1 y hy)
theorem sortE_go (E : List EdgeD) : ∀ l, risesE l → risesE (E.foldl (fun l e => insE e l) l) ∧ (E.foldl (fun l e => insE e l) l).Perm (l ++ E) := by
  induction E with
  | nil => intro l h; exact ⟨h, by simp⟩
  | cons e E ih =>
    intro l h
    obtain ⟨h1, h2⟩ := ih (insE e l) (insE_rises e h)
    refine ⟨h1, h2.trans ?_⟩
    exact ((insE_perm e l).append_right E).trans (by rw [List.cons_append]; exact List.perm_middle.symm)
theorem sortE_rises (E : List EdgeD) : risesE (sortE E) := (sortE_go E [] .nil).1
theorem sortE_perm (E : List EdgeD) : (sortE E).Perm E := by unfold sortE; simpa using (sortE_go E [] .nil).2
theorem sort_keys (E : List EdgeD) : sortT (E.map (·.id)) = (sortE E).map (·.id) :=
  rises_one (sortT_rises _) (List.pairwise_map.2 (sortE_rises E)) ((sortT_perm _).trans ((sortE_perm E).symm.map _))
theorem sort_filter (E : List EdgeD) (p : EdgeD → Bool) : sortT ((E.filter p).map (·.id)) = ((sortE E).filter p).map (·.id) :=
  rises_one (sortT_rises _) (List.pairwise_map.2 ((sortE_rises E).filter p)) ((sortT_perm _).trans (((sortE_perm E).symm.filter p).map _))
def pick {β : Type} (p : NodeD → Bool) (f : TagD × NodeD → β) (l : List (TagD × NodeD)) (seen : List Nat) : List β := seen.filterMap fun i => (l[i]?).bind fun q => if p q.2 = true then some (f q) else none
theorem pick_yes {β : Type} {p : NodeD → Bool} {f : TagD × NodeD → β} {l : List (TagD × NodeD)} {seen : List Nat} {i : Nat} {q : TagD × NodeD} (hq : l[i]? = some q) (h : p q.2 = true) : pick p f l (seen ++ [i]) = pick p f l seen ++ [f q] := by
  simp [pick, hq, h]
theorem pick_no {β : Type} {p : NodeD → Bool} {f : TagD × NodeD → β} {l : List (TagD × NodeD)} {seen : List Nat} {i : Nat} {q : TagD × NodeD} (hq : l[i]? = some q) (h : ¬ p q.2 = true) : pick p f l (seen ++ [i]) = pick p f l seen := by
  simp [pick, hq, h]
theorem pick_range {β : Type} (p : NodeD → Bool) (f : TagD × NodeD → β) : ∀ (l : List (TagD × NodeD)), pick p f l (List.range l.length) = (l.filter fun q => p q.2).map f
  | [] => rfl
  | q :: l => by
    have ih := pick_range p f l
    simp only [pick] at ih ⊢
    rw [List.length_cons, List.range_succ_eq_map, List.filterMap_cons]
    simp only [List.getElem?_cons_zero, Option.bind_some, List.filterMap_map]
    have e : ((fun i => ((q :: l)[i]?).bind fun q => if p q.2 = true then some (f q) else none) ∘ Nat.succ) = fun i => (l[i]?).bind fun q => if p q.2 = true then some (f q) else none := by
      funext i; simp
    rw [e, ih]
    cases hp : p q.2 <;> simp [hp]
def Seen (n : Nat) (seen : List Nat) : Prop := seen.Nodup ∧ ∀ i ∈ seen, i < n
theorem Seen.next {n i : Nat} {seen : List Nat} (h : Seen n seen) (hi : i < n) (hn : i ∉ seen) : Seen n (seen ++ [i]) := by
  refine ⟨List.nodup_append.2 ⟨h.1, by simp, ?_⟩, fun j hj => ?_⟩
  · intro a ha b hb e
    rw [List.mem_singleton] at hb
    subst hb e; exact hn ha
  · rcases List.mem_append.1 hj with hj | hj
    · exact h.2 j hj
    · rw [List.mem_singleton.1 hj]; exact hi
theorem Seen.all {n : Nat} {seen : List Nat} (h : Seen n seen) (ha : ∀ i, i < n → i ∈ seen) : seen.Perm (List.range n) := by
  refine (List.perm_ext_iff_of_nodup h.1 List.nodup_range).2 fun i => ?_
  rw [List.mem_range]
  exact ⟨h.2 i, ha i⟩
theorem Seen.len {n : Nat} {seen : List Nat} (h : Seen n seen) : seen.length ≤ n := by
  have hp : seen.Perm ((List.range n).filter fun i => decide (i ∈ seen)) := (List.perm_ext_iff_of_nodup h.1 (List.nodup_range.filter _)).2 fun i => by
    rw [List.mem_filter, List.mem_range, decide_eq_true_eq]
    exact ⟨fun hi => ⟨h.2 i hi, hi⟩, fun hi => hi.2⟩
  have := List.length_filter_le (fun i => decide (i ∈ seen)) (List.range n)
  rw [hp.length_eq]
  simpa using this
theorem pick_len {β : Type} {p : NodeD → Bool} {f : TagD × NodeD → β} {l : List (TagD × NodeD)} {seen : List Nat} (h : Seen l.length seen) : (pick p f l seen).length ≤ l.length :=
  Nat.le_trans (List.length_filterMap_le _ _) h.len
theorem pick_all {β : Type} {p : NodeD → Bool} {f : TagD × NodeD → β} {l : List (TagD × NodeD)} {seen : List Nat} (h : Seen l.length seen) (ha : ∀ i, i < l.length → i ∈ seen) : (pick p f l seen).Perm ((l.filter fun q => p q.2).map f) := by
  rw [← pick_range]
  exact (h.all ha).filterMap _
def tagsOf (p : NodeD → Bool) (l : List (TagD × NodeD)) : List TagD := sortT ((l.filter fun q => p q.2).map (·.1))
theorem tags_pick {p : NodeD → Bool} {l : List (TagD × NodeD)} {seen : List Nat} (h : Seen l.length seen) (ha : ∀ i, i < l.length → i ∈ seen) : sortT (pick p (·.1) l seen) = tagsOf p l := sortT_eq (pick_all h ha)
theorem tagsOf_perm {p : NodeD → Bool} {l l' : List (TagD × NodeD)} (h : l.Perm l') : tagsOf p l = tagsOf p l' := sortT_eq ((h.filter _).map _)
theorem tagsOf_len {p : NodeD → Bool} {l : List (TagD × NodeD)} : (tagsOf p l).length ≤ l.length := by
  unfold tagsOf
  rw [sortT_len, List.length_map]
  exact List.length_filter_le _ _
def edgesOf (l : List (TagD × NodeD)) : List EdgeD := (tagsOf (fun _ => true) l).map fun k => ((findT k l).getD noNode).edge
theorem find_node {E : List EdgeD} (hu : E.Pairwise fun a b => ¬ a.id = b.id) : ∀ {e : EdgeD}, e ∈ E → ∀ (g : EdgeD → NodeD), findT e.id (E.map fun e => (e.id, g e)) = some (g e) := by
  induction E with
  | nil => intro e h; cases h
  | cons x E ih =>
    intro e he g
    obtain ⟨h1, h2⟩ := List.pairwise_cons.1 hu
    simp only [List.map_cons, findT]
    rcases List.mem_cons.1 he with rfl | he
    · rw [if_pos rfl]
    · rw [if_neg (fun h => h1 e he h.symm)]; exact ih h2 he g
theorem edgesOf_nodes {E : List EdgeD} (hu : E.Pairwise fun a b => ¬ a.id = b.id) : edgesOf (nodesOf E) = sortE E := by
  unfold edgesOf tagsOf nodesOf
  rw [List.filter_eq_self.2 (by intro a _; rfl), List.map_map]
  rw [show ((fun (q : TagD × NodeD) => q.1) ∘ fun e : EdgeD => (e.id, nodeOf E e)) = EdgeD.id from rfl, sort_keys, List.map_map]
  conv => rhs; rw [← List.map_id (sortE E)]
  refine List.map_congr_left fun e he => ?_
  simp only [Function.comp_apply, id]
  rw [find_node hu ((sortE_perm E).mem_iff.1 he) (nodeOf E)]
  rfl
theorem liveOf_nodes {E : List EdgeD} : tagsOf (fun n => decide (n.state = 2)) (nodesOf E) = ((sortE E).filter fun e => decide ((cameOf E e.id).1 = 2)).map (·.id) := by
  unfold tagsOf nodesOf
  rw [List.filter_map, List.map_map]
  exact sort_filter E fun e => decide ((cameOf E e.id).1 = 2)
theorem edgeOf_perm {E F : List EdgeD} (hu : E.Pairwise fun a b => ¬ a.id = b.id) (hp : E.Perm F) (id : TagD) : edgeOf E id = edgeOf F id := by
  have hF : F.Pairwise fun a b => ¬ a.id = b.id := (hp.pairwise_iff (R := fun a b : EdgeD => ¬ a.id = b.id) (fun h e => h e.symm)).1 hu
  cases h : edgeOf E id with
  | some e =>
    obtain ⟨h1, rfl⟩ := edge_mem h
    exact (edge_of_mem hF (hp.mem_iff.1 h1)).symm
  | none =>
    cases k : edgeOf F id with
    | none => rfl
    | some e =>
      obtain ⟨h1, rfl⟩ := edge_mem k
      rw [edge_of_mem hu (hp.mem_iff.2 h1)] at h; cases h
theorem comes_perm {E F : List EdgeD} (hu : E.Pairwise fun a b => ¬ a.id = b.id) (hp : E.Perm F) : ∀ (n : Nat) (id : TagD), comes n E id = comes n F id
  | 0, _ => rfl
  | n + 1, id => by
    by_cases h0 : id = noTag
    · subst h0; rw [comes_root, comes_root]
    · have he := edgeOf_perm hu hp id
      cases h : edgeOf E id with
      | none => rw [comes_none h0 h, comes_none h0 (he ▸ h)]
      | some e => rw [comes_succ h0 h, comes_succ h0 (he ▸ h), comes_perm hu hp n e.parent]
theorem came_perm {E F : List EdgeD} (hu : E.Pairwise fun a b => ¬ a.id = b.id) (hp : E.Perm F) (id : TagD) : cameOf E id = cameOf F id := by
  unfold cameOf; rw [hp.length_eq]; exact comes_perm hu hp _ id
theorem sortE_eq {E F : List EdgeD} (hu : E.Pairwise fun a b => ¬ a.id = b.id) (hp : E.Perm F) : sortE E = sortE F := by
  have hF : F.Pairwise fun a b => ¬ a.id = b.id := (hp.pairwise_iff (R := fun a b : EdgeD => ¬ a.id = b.id) (fun h e => h e.symm)).1 hu
  refine List.Perm.eq_of_pairwise (le := fun a b => leT a.id b.id = true) (fun a b ha hb h k => ?_) (sortE_rises E) (sortE_rises F) ((sortE_perm E).trans (hp.trans (sortE_perm F).symm))
  have he := leT_anti h k
  have h1 := edge_of_mem hu ((sortE_perm E).mem_iff.1 ha)
  have h2 := edge_of_mem hu (hp.mem_iff.2 ((sortE_perm F).mem_iff.1 hb))
  rw [he, h2] at h1
  exact (Option.some.inj h1).symm
end Go.Vm
end
section
namespace Go.Vm
def atN (id : TagD) : Nat → List EdgeD → Int
  | _, [] => -1
  | k, e :: l => if e.id = id then (k : Int) else atN id (k + 1) l
def atE (E : List EdgeD) (id : TagD) : Int := atN id 0 E
theorem drop_atE {α : Type} {l : List α} {k : Nat} {x : α} (h : l[k]? = some x) : l.drop k = x :: l.drop (k + 1) := by
  obtain ⟨h1, h2⟩ := List.getElem?_eq_some_iff.1 h
  rw [List.drop_eq_getElem_cons h1, h2]
theorem atN_yes {id : TagD} {E : List EdgeD} {k : Nat} {e : EdgeD} (h : E[k]? = some e) (he : e.id = id) : atN id k (E.drop k) = k := by rw [drop_atE h, atN, if_pos he]
theorem atN_no {id : TagD} {E : List EdgeD} {k : Nat} {e : EdgeD} (h : E[k]? = some e) (he : ¬ e.id = id) : atN id k (E.drop k) = atN id (k + 1) (E.drop (k + 1)) := by rw [drop_atE h, atN, if_neg he]
theorem atN_end {id : TagD} {E : List EdgeD} {k : Nat} (h : E.length ≤ k) : atN id k (E.drop k) = -1 := by rw [List.drop_eq_nil_of_le h]; rfl
theorem atN_cases (id : TagD) : ∀ (k : Nat) (E : List EdgeD), (E.find? (fun e => decide (e.id = id)) = none ∧ atN id k E = -1) ∨ ∃ j e, E[j]? = some e ∧ E.find? (fun e => decide (e.id = id)) = some e ∧ atN id k E = ((k + j : Nat) : Int)
  | _, [] => .inl ⟨rfl, rfl⟩
  | k, e :: E => by
    by_cases h : e.id = id
    · refine .inr ⟨0, e, rfl, by simp [h], ?_⟩
      rw [atN, if_pos h]; simp
    · rcases atN_cases id (k + 1) E with ⟨h1, h2⟩ | ⟨j, x, h1, h2, h3⟩
      · exact .inl ⟨by simp [h]; simpa using h1, by rw [atN, if_neg h]; exact h2⟩
      · refine .inr ⟨j + 1, x, by simpa using h1, ?_, by rw [atN, if_neg h, h3]; congr 1; omega⟩
        rw [List.find?_cons_of_neg (by simpa using h)]; exact h2
theorem atE_cases (E : List EdgeD) (id : TagD) : (edgeOf E id = none ∧ atE E id = -1) ∨ ∃ (j : Nat) (e : EdgeD), E[j]? = some e ∧ edgeOf E id = some e ∧ atE E id = (j : Int) := by
  rcases atN_cases id 0 E with h | ⟨j, e, h1, h2, h3⟩
  · exact .inl h
  · exact .inr ⟨j, e, h1, h2, by unfold atE; simpa using h3⟩
theorem atE_miss {E : List EdgeD} {id : TagD} (h : atE E id < 0) : edgeOf E id = none := by
  rcases atE_cases E id with h1 | ⟨j, e, h1, h2, h3⟩
  · exact h1.1
  · omega
theorem atE_hit {E : List EdgeD} {id : TagD} (h : ¬ atE E id < 0) : ∃ (j : Nat) (e : EdgeD), E[j]? = some e ∧ edgeOf E id = some e ∧ atE E id = (j : Int) := by
  rcases atE_cases E id with h1 | h1
  · omega
  · exact h1
theorem insE_at (e : EdgeD) : ∀ (l : List EdgeD) (j : Nat), j ≤ l.length → (∀ i x, i < j → l[i]? = some x → lessT x.id e.id = true) → (∀ x, l[j]? = some x → lessT x.id e.id = false) → l.take j ++ e :: l.drop j = insE e l
  | [], j, hj, _, _ => by
    obtain rfl : j = 0 := by simpa using hj
    rfl
  | x :: l, 0, _, _, h2 => by
    have := h2 x rfl
    simp [insE, this]
  | x :: l, j + 1, hj, h1, h2 => by
    have hx := h1 0 x (by omega) rfl
    simp only [List.take_succ_cons, List.drop_succ_cons, List.cons_append, insE, hx, if_true]
    rw [insE_at e l j (by simpa using hj) (fun i y hi hy => h1 (i + 1) y (by omega) (by simpa using hy)) (fun y hy => h2 y (by simpa using hy))]
theorem sortE_take {E : List EdgeD} {k : Nat} {e : EdgeD} (h : E[k]? = some e) : sortE (E.take (k + 1)) = insE e (sortE (E.take k)) := by
  unfold sortE
  rw [List.take_add_one, h, List.foldl_append]; rfl
theorem sortE_len (E : List EdgeD) : (sortE E).length = E.length := (sortE_perm E).length_eq
def growE (l : List EdgeD) : List EdgeD := l.foldl (fun E e => (putE E e).1) []
theorem growE_take {l : List EdgeD} {k : Nat} {e : EdgeD} (h : l[k]? = some e) : growE (l.take (k + 1)) = (putE (growE (l.take k)) e).1 := by
  unfold growE
  rw [List.take_add_one, h, List.foldl_append]; rfl
theorem put_len {E : List EdgeD} {e : EdgeD} (h : E.length ≤ 40) : (putE E e).1.length ≤ 40 := by
  unfold putE
  split
  · exact h
  · split
    · split <;> exact h
    · split
      · exact h
      · simp; omega
theorem good_empty : Good [] := ⟨by simp, by simp, .nil⟩
theorem grow_good {l : List EdgeD} (hok : ∀ e ∈ l, okX e.lens) : Good (growE l) ∧ (growE l).length ≤ 40 := by
  suffices h : ∀ E, Good E → E.length ≤ 40 → Good (l.foldl (fun E e => (putE E e).1) E) ∧ (l.foldl (fun E e => (putE E e).1) E).length ≤ 40 from h [] good_empty (by simp)
  induction l with
  | nil => intro E h1 h2; exact ⟨h1, h2⟩
  | cons e l ih =>
    intro E h1 h2
    exact ih (fun x hx => hok x (List.mem_cons_of_mem _ hx)) _ (h1.put (hok e (List.mem_cons_self ..))) (put_len h2)
theorem rightL_kind {x : LensD} (h : rightL x = true) : 1 ≤ x.kind := by
  unfold rightL at h
  split at h
  · omega
  · simp only [Bool.and_eq_true] at h
    have h := h.2
    split at h
    · omega
    · simp only [Bool.and_eq_true] at h
      have h := h.2
      split at h
      · omega
      · simp only [Bool.and_eq_true] at h
        have h := h.2
        split at h
        · omega
        · simp only [Bool.and_eq_true] at h
          have h := h.2
          split at h
          · omega
          · split at h
            · omega
            · split at h
              · omega
              · cases h
theorem edgeB_ref (e : EdgeD) : edgeB e = (tagB e.id && (decide (e.parent = noTag) || tagB e.parent) && !decide (e.id = e.parent) && rightL e.lens && decide (e.lens.kind < 9)) := by
  unfold edgeB
  cases h1 : tagB e.id with
  | false => rfl
  | true =>
    have hr := tag_real h1
    cases h2 : rightL e.lens with
    | false => simp
    | true =>
      have hk := rightL_kind h2
      by_cases h3 : e.parent = noTag
      · have h5 : ¬ e.id = e.parent := by rw [h3]; exact hr
        rw [decide_eq_true h3, decide_eq_false h5]
        rw [Bool.eq_iff_iff]; simp only [Bool.true_and, Bool.true_or, Bool.and_true, Bool.not_false, Bool.and_eq_true, decide_eq_true_eq]; omega
      · rw [decide_eq_false h3]
        by_cases h4 : e.id = e.parent
        · rw [decide_eq_true h4, decide_eq_true h4.symm]; simp
        · have h5 : ¬ e.parent = e.id := fun h => h4 h.symm
          rw [decide_eq_false h4, decide_eq_false h5]
          cases tagB e.parent <;> (rw [Bool.eq_iff_iff]; simp only [Bool.true_and, Bool.false_or, Bool.and_true, Bool.not_false, Bool.and_eq_true, decide_eq_true_eq, Bool.false_and, Bool.and_false, Bool.false_eq_true, false_and, and_false]; try omega)
end Go.Vm
end
section
namespace Go.Vm
def growF (E l : List EdgeD) : List EdgeD := l.foldl (fun E e => (putE E e).1) E
theorem growF_good : ∀ {l E : List EdgeD}, Good E → E.length ≤ 40 → (∀ e ∈ l, okX e.lens) → Good (growF E l) ∧ (growF E l).length ≤ 40
 | [], E, h1, h2, _ => ⟨h1, h2⟩
 | e :: l, E, h1, h2, h3 => growF_good (l := l) (h1.put (h3 e (List.mem_cons_self ..))) (put_len h2) (fun x hx => h3 x (List.mem_cons_of_mem _ hx))
end Go.Vm
end
section
namespace Go.Vm
abbrev UniqE (l : List EdgeD) : Prop := l.Pairwise fun a b => ¬ a.id = b.id
theorem liveE_perm {E F : List EdgeD} (hu : UniqE E) (hp : E.Perm F) : noTag :: ((sortE E).filter fun e => decide ((cameOf E e.id).1 = 2)).map (·.id) = noTag :: ((sortE F).filter fun e => decide ((cameOf F e.id).1 = 2)).map (·.id) := by
 rw [sortE_eq hu hp]
 congr 2
 refine List.filter_congr fun e _ => ?_
 rw [came_perm hu hp]
end Go.Vm
end
section
namespace Go.Vm
open Go.Proofs.YtmmffeldlhofiaaGreatDoor
noncomputable def edgesR (l : List ByteArray) : List EdgeD := l.map fun s => (edgeS s).getD noEdge
noncomputable def gL (l : List ByteArray) (k : Nat) : List EdgeD := growF [] (edgesR (l.take k))
noncomputable def growL : List EdgeD → Nat → List ByteArray → List EdgeD × Nat × Int
  | E, i, [] => (E, i, 0)
  | E, i, s :: r => match edgeS s with
    | none => (E, i, 4)
    | some e => if (putE E e).2 = 0 then growL (putE E e).1 (i + 1) r else ((putE E e).1, i, (putE E e).2)
noncomputable def grownL (l : List ByteArray) : List EdgeD × Nat × Int := growL [] 0 l
def GoesL (l : List ByteArray) (k : Nat) : Prop := grownL l = growL (gL l k) k (l.drop k)
theorem goesL_zero (l : List ByteArray) : GoesL l 0 := rfl
theorem gL_take {l : List ByteArray} {k : Nat} {p : ByteArray} (hp : l[k]? = some p) : gL l (k + 1) = (putE (gL l k) ((edgeS p).getD noEdge)).1 := by
  unfold gL edgesR growF
  rw [List.take_add_one, hp, List.map_append, List.foldl_append]; rfl
theorem dropL_at {l : List ByteArray} {k : Nat} {p : ByteArray} (hp : l[k]? = some p) : l.drop k = p :: l.drop (k + 1) := by
  obtain ⟨h, e⟩ := List.getElem?_eq_some_iff.1 hp
  rw [List.drop_eq_getElem_cons h, e]
theorem goesL_next {l : List ByteArray} {k : Nat} {p : ByteArray} {e : EdgeD} (h : GoesL l k) (hp : l[k]? = some p) (he : edgeS p = some e) (hc : (putE (gL l k) e).2 = 0) : GoesL l (k + 1) := by
  unfold GoesL at h ⊢
  rw [h, dropL_at hp, growL, he]
  dsimp only
  rw [if_pos hc, gL_take hp, he]; rfl
theorem goesL_no1 {l : List ByteArray} {k : Nat} {p : ByteArray} (h : GoesL l k) (hp : l[k]? = some p) (he : edgeS p = none) : grownL l = (gL l k, k, 4) := by
  unfold GoesL at h
  rw [h, dropL_at hp, growL, he]
theorem goesL_no2 {l : List ByteArray} {k : Nat} {p : ByteArray} {e : EdgeD} (h : GoesL l k) (hp : l[k]? = some p) (he : edgeS p = some e) (hc : ¬ (putE (gL l k) e).2 = 0) : grownL l = ((putE (gL l k) e).1, k, (putE (gL l k) e).2) := by
  unfold GoesL at h
  rw [h, dropL_at hp, growL, he]
  dsimp only
  rw [if_neg hc]
theorem goesL_end {l : List ByteArray} {k : Nat} (h : GoesL l k) (hk : k = l.length) : grownL l = (gL l k, l.length, 0) := by
  unfold GoesL at h
  rw [h, hk, List.drop_length, growL]
theorem okX_noE : okX noEdge.lens := ⟨by decide, by decide, by decide⟩
theorem okX_rightE {x : LensD} (h : rightL x = true) : okX x := by
  have z := rightL_size h
  refine ⟨?_, Nat.le_trans z.forth.1 (by decide), Nat.le_trans z.back.1 (by decide)⟩
  by_cases hk : x.kind = 2 ∨ x.kind = 3
  · exact Nat.le_trans (rightF_size (z.field.1 hk)).2.2.1 (by decide)
  · rw [z.field.2 hk]; exact Nat.zero_le _
theorem okX_edge {e : EdgeD} (h : edgeB e = true) : okX e.lens := okX_rightE (edgeB_tags h).2.2
theorem okX_read (s : ByteArray) : okX ((edgeS s).getD noEdge).lens := by
  cases h : edgeS s with
  | none => exact okX_noE
  | some e => exact okX_edge (pick_inv h).1
theorem gL_good (l : List ByteArray) (k : Nat) : Good (gL l k) ∧ (gL l k).length ≤ 40 :=
  growF_good good_empty (by simp) fun e he => by
    obtain ⟨s, _, rfl⟩ := List.mem_map.1 he
    exact okX_read s
theorem put_right {E : List EdgeD} {e : EdgeD} (h : ∀ x ∈ E, edgeB x = true) : ∀ x ∈ (putE E e).1, edgeB x = true := by
  unfold putE
  split
  · exact h
  · rename_i hb
    split
    · split <;> exact h
    · split
      · exact h
      · intro x hx
        rcases List.mem_append.1 hx with hx | hx
        · exact h x hx
        · rw [List.mem_singleton.1 hx]; simpa using hb
theorem growF_right : ∀ {l E : List EdgeD}, (∀ x ∈ E, edgeB x = true) → ∀ x ∈ growF E l, edgeB x = true
  | [], _, h => h
  | e :: l, E, h => growF_right (l := l) (put_right h)
theorem growE_right (l : List EdgeD) : ∀ x ∈ growE l, edgeB x = true := growF_right (E := []) (by simp)
theorem growL_texts : ∀ (S A : List EdgeD) (i : Nat), (∀ e ∈ S, edgeB e = true) → (A ++ S).Pairwise (fun a b => ¬ a.id = b.id) → (A ++ S).length ≤ 40 → growL A i (S.map textE) = (A ++ S, i + S.length, 0)
  | [], A, i, _, _, _ => by simp [growL]
  | e :: S, A, i, hb, hu, hl => by
    have hbe := hb e (List.mem_cons_self ..)
    have hn : edgeOf A e.id = none := by
      unfold edgeOf
      rw [List.find?_eq_none]
      intro x hx
      have := (List.pairwise_append.1 hu).2.2 x hx e (List.mem_cons_self ..)
      simpa using this
    have hA : ¬ 40 ≤ A.length := by rw [List.length_append, List.length_cons] at hl; omega
    have hp : putE A e = (A ++ [e], 0) := by
      unfold putE
      rw [if_neg (by rw [hbe]; decide), hn]
      dsimp only
      rw [if_neg hA]
    rw [List.map_cons, growL, edgeS_some hbe rfl]
    dsimp only
    rw [hp, if_pos rfl]
    have e1 : A ++ e :: S = (A ++ [e]) ++ S := by simp
    rw [growL_texts S (A ++ [e]) (i + 1) (fun x hx => hb x (List.mem_cons_of_mem _ hx)) (by rw [← e1]; exact hu) (by rw [← e1]; exact hl), e1, List.length_cons]
    congr 2
    omega
theorem sort_uniq {E : List EdgeD} (hg : Good E) : (sortE E).Pairwise fun a b => ¬ a.id = b.id := ((sortE_perm E).symm.pairwise_iff (R := fun a b : EdgeD => ¬ a.id = b.id) (fun h e => h e.symm)).1 hg.uniq
theorem good_sort {E : List EdgeD} (hg : Good E) : Good (sortE E) :=
  ⟨fun e he => hg.ok e ((sortE_perm E).mem_iff.1 he), fun e he => hg.tag e ((sortE_perm E).mem_iff.1 he), sort_uniq hg⟩
theorem grown_sorted {E : List EdgeD} (hg : Good E) (hl : E.length ≤ 40) (hb : ∀ e ∈ E, edgeB e = true) : grownL ((sortE E).map textE) = (sortE E, E.length, 0) := by
  have := growL_texts (sortE E) [] 0 (fun e he => hb e ((sortE_perm E).mem_iff.1 he)) (sort_uniq hg) (by rw [List.nil_append, sortE_len]; exact hl)
  unfold grownL
  rw [this, sortE_len]
  simp
theorem sort_sort {E : List EdgeD} (hg : Good E) : sortE (sortE E) = sortE E := sortE_eq (sort_uniq hg) (sortE_perm E)
theorem grownL_good (l : List ByteArray) : Good (grownL l).1 ∧ (grownL l).1.length ≤ 40 := by
  have go : ∀ (l : List ByteArray) (E : List EdgeD) (i : Nat), Good E → E.length ≤ 40 → Good (growL E i l).1 ∧ (growL E i l).1.length ≤ 40 := by
    intro l
    induction l with
    | nil => intro E i h1 h2; exact ⟨h1, h2⟩
    | cons s r ih =>
      intro E i h1 h2
      rw [growL]
      cases h : edgeS s with
      | none => exact ⟨h1, h2⟩
      | some e =>
        have hx := okX_edge (pick_inv h).1
        dsimp only
        split
        · exact ih _ _ (h1.put hx) (put_len h2)
        · exact ⟨h1.put hx, put_len h2⟩
  exact go l [] 0 good_empty (by simp)
end Go.Vm
end
section
namespace Go.Vm
open Go.RowKit Go.Proofs
set_option maxRecDepth 10000
open Go.Proofs.YtmmffeldlhofiaaGreatDoor Punnet.Name Punnet.Num
theorem fieldRead_any (s : ByteArray) (hs : s.size ≤ 1000000) : Contract Tryz.prog 115 [.sc (.string (s))] [.d (rD ((placeOf s).getD noRef)), .d (.sc (.int .i64 ((if (placeOf s).isSome = true then 0 else 4))))] := by
 refine T.fn [] Tryz.func115 ?_
 refine x_call T.en_122 (split1_any 46 s hs) ?_
 first | refine x_ix (by first | exact wd_ix (i := 0) rfl (by first | exact splitW_pos | omega) | exact wd_ix (i := 1) rfl (by first | exact splitW_pos | omega) | exact wd_ix (i := 2) rfl (by first | exact splitW_pos | omega) | exact wd_ix (i := 3) rfl (by first | exact splitW_pos | omega) | exact wd_ix (i := 4) rfl (by first | exact splitW_pos | omega) | exact wd_ix (i := 5) rfl (by first | exact splitW_pos | omega)) ?_ | refine x_ixI (by first | exact wd_ix (i := 0) rfl (by first | exact splitW_pos | omega) | exact wd_ix (i := 1) rfl (by first | exact splitW_pos | omega) | exact wd_ix (i := 2) rfl (by first | exact splitW_pos | omega) | exact wd_ix (i := 3) rfl (by first | exact splitW_pos | omega) | exact wd_ix (i := 4) rfl (by first | exact splitW_pos | omega) | exact wd_ix (i := 5) rfl (by first | exact splitW_pos | omega)) ?_
 refine br (fun hc1 => ?y1) (fun hc1 => ?n1)
 case' y1 =>
  have hsc : wd (splitW 46 s) 0 = ⟨#[104, 101, 97, 100]⟩ := hc1
  refine x_len ?_
  refine br (fun hc2 => ?y2) (fun hc2 => ?n2)
  case' y2 =>
   have hl2 : (splitW 46 s).length = 2 := by omega
   have hcd : candR (splitW 46 s) = ⟨0, noB, wd (splitW 46 s) 1⟩ := by unfold candR; simp_all
   first | refine x_ix (by first | exact wd_ix (i := 0) rfl (by first | exact splitW_pos | omega) | exact wd_ix (i := 1) rfl (by first | exact splitW_pos | omega) | exact wd_ix (i := 2) rfl (by first | exact splitW_pos | omega) | exact wd_ix (i := 3) rfl (by first | exact splitW_pos | omega) | exact wd_ix (i := 4) rfl (by first | exact splitW_pos | omega) | exact wd_ix (i := 5) rfl (by first | exact splitW_pos | omega)) ?_ | refine x_ixI (by first | exact wd_ix (i := 0) rfl (by first | exact splitW_pos | omega) | exact wd_ix (i := 1) rfl (by first | exact splitW_pos | omega) | exact wd_ix (i := 2) rfl (by first | exact splitW_pos | omega) | exact wd_ix (i := 3) rfl (by first | exact splitW_pos | omega) | exact wd_ix (i := 4) rfl (by first | exact splitW_pos | omega) | exact wd_ix (i := 5) rfl (by first | exact splitW_pos | omega)) ?_
   refine x_call T.en_108 (by first | exact place_any ⟨0, noB, wd (splitW 46 s) 1⟩ | exact place_any ⟨0, wd (splitW 46 s) 1, wd (splitW 46 s) 2⟩ | exact place_any ⟨0, noB, noB⟩ | exact place_any ⟨1, noB, wd (splitW 46 s) 1⟩ | exact place_any ⟨1, wd (splitW 46 s) 1, wd (splitW 46 s) 2⟩ | exact place_any ⟨1, noB, noB⟩) ?_
   refine br (fun hg3 => ?y3) (fun hg3 => ?n3)
   case' y3 =>
    have hN := place_no2 (s := s) (by rw [hcd]; exact hg3)
    refine brT ?_
   case' n3 =>
    have hpb : placeB (candR (splitW 46 s)) = true := by rw [hcd]; exact hg3
    refine x_call T.en_92 (by first | exact fieldPrint_any ⟨0, noB, wd (splitW 46 s) 1⟩ | exact fieldPrint_any ⟨0, wd (splitW 46 s) 1, wd (splitW 46 s) 2⟩ | exact fieldPrint_any ⟨0, noB, noB⟩ | exact fieldPrint_any ⟨1, noB, wd (splitW 46 s) 1⟩ | exact fieldPrint_any ⟨1, wd (splitW 46 s) 1, wd (splitW 46 s) 2⟩ | exact fieldPrint_any ⟨1, noB, noB⟩) ?_
    refine br (fun hc5 => ?y5) (fun hc5 => ?n5)
    case' y5 =>
     have hN := place_no3 (s := s) (by rw [hcd]; intro e; apply hc5; rw [if_pos (by rw [← hcd]; exact hpb)]; exact e)
    case' n5 =>
     have hY := placeOf_some hpb (s := s) (by rw [hcd]; have h9 := hc5; rw [if_pos (by rw [← hcd]; exact hpb)] at h9; exact h9)
     rw [hcd] at hY
  case' n2 =>
   refine br (fun hc6 => ?y6) (fun hc6 => ?n6)
   case' y6 =>
    have hl3 : (splitW 46 s).length = 3 := by omega
    have hcd : candR (splitW 46 s) = ⟨0, wd (splitW 46 s) 1, wd (splitW 46 s) 2⟩ := by unfold candR; simp_all
    refine And.intro ⟨T.mixed, by decide +kernel⟩ ?_
    first | refine x_ix (by first | exact wd_ix (i := 0) rfl (by first | exact splitW_pos | omega) | exact wd_ix (i := 1) rfl (by first | exact splitW_pos | omega) | exact wd_ix (i := 2) rfl (by first | exact splitW_pos | omega) | exact wd_ix (i := 3) rfl (by first | exact splitW_pos | omega) | exact wd_ix (i := 4) rfl (by first | exact splitW_pos | omega) | exact wd_ix (i := 5) rfl (by first | exact splitW_pos | omega)) ?_ | refine x_ixI (by first | exact wd_ix (i := 0) rfl (by first | exact splitW_pos | omega) | exact wd_ix (i := 1) rfl (by first | exact splitW_pos | omega) | exact wd_ix (i := 2) rfl (by first | exact splitW_pos | omega) | exact wd_ix (i := 3) rfl (by first | exact splitW_pos | omega) | exact wd_ix (i := 4) rfl (by first | exact splitW_pos | omega) | exact wd_ix (i := 5) rfl (by first | exact splitW_pos | omega)) ?_
    first | refine x_ix (by first | exact wd_ix (i := 0) rfl (by first | exact splitW_pos | omega) | exact wd_ix (i := 1) rfl (by first | exact splitW_pos | omega) | exact wd_ix (i := 2) rfl (by first | exact splitW_pos | omega) | exact wd_ix (i := 3) rfl (by first | exact splitW_pos | omega) | exact wd_ix (i := 4) rfl (by first | exact splitW_pos | omega) | exact wd_ix (i := 5) rfl (by first | exact splitW_pos | omega)) ?_ | refine x_ixI (by first | exact wd_ix (i := 0) rfl (by first | exact splitW_pos | omega) | exact wd_ix (i := 1) rfl (by first | exact splitW_pos | omega) | exact wd_ix (i := 2) rfl (by first | exact splitW_pos | omega) | exact wd_ix (i := 3) rfl (by first | exact splitW_pos | omega) | exact wd_ix (i := 4) rfl (by first | exact splitW_pos | omega) | exact wd_ix (i := 5) rfl (by first | exact splitW_pos | omega)) ?_
    refine x_call T.en_108 (by first | exact place_any ⟨0, noB, wd (splitW 46 s) 1⟩ | exact place_any ⟨0, wd (splitW 46 s) 1, wd (splitW 46 s) 2⟩ | exact place_any ⟨0, noB, noB⟩ | exact place_any ⟨1, noB, wd (splitW 46 s) 1⟩ | exact place_any ⟨1, wd (splitW 46 s) 1, wd (splitW 46 s) 2⟩ | exact place_any ⟨1, noB, noB⟩) ?_
    refine br (fun hg7 => ?y7) (fun hg7 => ?n7)
    case' y7 =>
     have hN := place_no2 (s := s) (by rw [hcd]; exact hg7)
     refine brT ?_
    case' n7 =>
     have hpb : placeB (candR (splitW 46 s)) = true := by rw [hcd]; exact hg7
     refine x_call T.en_92 (by first | exact fieldPrint_any ⟨0, noB, wd (splitW 46 s) 1⟩ | exact fieldPrint_any ⟨0, wd (splitW 46 s) 1, wd (splitW 46 s) 2⟩ | exact fieldPrint_any ⟨0, noB, noB⟩ | exact fieldPrint_any ⟨1, noB, wd (splitW 46 s) 1⟩ | exact fieldPrint_any ⟨1, wd (splitW 46 s) 1, wd (splitW 46 s) 2⟩ | exact fieldPrint_any ⟨1, noB, noB⟩) ?_
     refine br (fun hc9 => ?y9) (fun hc9 => ?n9)
     case' y9 =>
      have hN := place_no3 (s := s) (by rw [hcd]; intro e; apply hc9; rw [if_pos (by rw [← hcd]; exact hpb)]; exact e)
     case' n9 =>
      have hY := placeOf_some hpb (s := s) (by rw [hcd]; have h9 := hc9; rw [if_pos (by rw [← hcd]; exact hpb)] at h9; exact h9)
      rw [hcd] at hY
   case' n6 =>
    have hl2 : ¬ (splitW 46 s).length = 2 := by omega
    have hl3 : ¬ (splitW 46 s).length = 3 := by omega
    have hcd : candR (splitW 46 s) = ⟨0, noB, noB⟩ := by unfold candR; simp_all
    refine x_call T.en_108 (by first | exact place_any ⟨0, noB, wd (splitW 46 s) 1⟩ | exact place_any ⟨0, wd (splitW 46 s) 1, wd (splitW 46 s) 2⟩ | exact place_any ⟨0, noB, noB⟩ | exact place_any ⟨1, noB, wd (splitW 46 s) 1⟩ | exact place_any ⟨1, wd (splitW 46 s) 1, wd (splitW 46 s) 2⟩ | exact place_any ⟨1, noB, noB⟩) ?_
    refine br (fun hg10 => ?y10) (fun hg10 => ?n10)
    case' y10 =>
     have hN := place_no2 (s := s) (by rw [hcd]; exact hg10)
     refine brT ?_
    case' n10 =>
     have hpb : placeB (candR (splitW 46 s)) = true := by rw [hcd]; exact hg10
     refine x_call T.en_92 (by first | exact fieldPrint_any ⟨0, noB, wd (splitW 46 s) 1⟩ | exact fieldPrint_any ⟨0, wd (splitW 46 s) 1, wd (splitW 46 s) 2⟩ | exact fieldPrint_any ⟨0, noB, noB⟩ | exact fieldPrint_any ⟨1, noB, wd (splitW 46 s) 1⟩ | exact fieldPrint_any ⟨1, wd (splitW 46 s) 1, wd (splitW 46 s) 2⟩ | exact fieldPrint_any ⟨1, noB, noB⟩) ?_
     refine br (fun hc12 => ?y12) (fun hc12 => ?n12)
     case' y12 =>
      have hN := place_no3 (s := s) (by rw [hcd]; intro e; apply hc12; rw [if_pos (by rw [← hcd]; exact hpb)]; exact e)
     case' n12 =>
      have hY := placeOf_some hpb (s := s) (by rw [hcd]; have h9 := hc12; rw [if_pos (by rw [← hcd]; exact hpb)] at h9; exact h9)
      rw [hcd] at hY
 case' n1 =>
  refine br (fun hc13 => ?y13) (fun hc13 => ?n13)
  case' y13 =>
   have hsc : wd (splitW 46 s) 0 = ⟨#[108, 105, 110, 101]⟩ := hc13
   refine x_len ?_
   refine br (fun hc14 => ?y14) (fun hc14 => ?n14)
   case' y14 =>
    have hl2 : (splitW 46 s).length = 2 := by omega
    have hcd : candR (splitW 46 s) = ⟨1, noB, wd (splitW 46 s) 1⟩ := by unfold candR; simp_all
    first | refine x_ix (by first | exact wd_ix (i := 0) rfl (by first | exact splitW_pos | omega) | exact wd_ix (i := 1) rfl (by first | exact splitW_pos | omega) | exact wd_ix (i := 2) rfl (by first | exact splitW_pos | omega) | exact wd_ix (i := 3) rfl (by first | exact splitW_pos | omega) | exact wd_ix (i := 4) rfl (by first | exact splitW_pos | omega) | exact wd_ix (i := 5) rfl (by first | exact splitW_pos | omega)) ?_ | refine x_ixI (by first | exact wd_ix (i := 0) rfl (by first | exact splitW_pos | omega) | exact wd_ix (i := 1) rfl (by first | exact splitW_pos | omega) | exact wd_ix (i := 2) rfl (by first | exact splitW_pos | omega) | exact wd_ix (i := 3) rfl (by first | exact splitW_pos | omega) | exact wd_ix (i := 4) rfl (by first | exact splitW_pos | omega) | exact wd_ix (i := 5) rfl (by first | exact splitW_pos | omega)) ?_
    refine x_call T.en_108 (by first | exact place_any ⟨0, noB, wd (splitW 46 s) 1⟩ | exact place_any ⟨0, wd (splitW 46 s) 1, wd (splitW 46 s) 2⟩ | exact place_any ⟨0, noB, noB⟩ | exact place_any ⟨1, noB, wd (splitW 46 s) 1⟩ | exact place_any ⟨1, wd (splitW 46 s) 1, wd (splitW 46 s) 2⟩ | exact place_any ⟨1, noB, noB⟩) ?_
    refine br (fun hg15 => ?y15) (fun hg15 => ?n15)
    case' y15 =>
     have hN := place_no2 (s := s) (by rw [hcd]; exact hg15)
     refine brT ?_
    case' n15 =>
     have hpb : placeB (candR (splitW 46 s)) = true := by rw [hcd]; exact hg15
     refine x_call T.en_92 (by first | exact fieldPrint_any ⟨0, noB, wd (splitW 46 s) 1⟩ | exact fieldPrint_any ⟨0, wd (splitW 46 s) 1, wd (splitW 46 s) 2⟩ | exact fieldPrint_any ⟨0, noB, noB⟩ | exact fieldPrint_any ⟨1, noB, wd (splitW 46 s) 1⟩ | exact fieldPrint_any ⟨1, wd (splitW 46 s) 1, wd (splitW 46 s) 2⟩ | exact fieldPrint_any ⟨1, noB, noB⟩) ?_
     refine br (fun hc17 => ?y17) (fun hc17 => ?n17)
     case' y17 =>
      have hN := place_no3 (s := s) (by rw [hcd]; intro e; apply hc17; rw [if_pos (by rw [← hcd]; exact hpb)]; exact e)
     case' n17 =>
      have hY := placeOf_some hpb (s := s) (by rw [hcd]; have h9 := hc17; rw [if_pos (by rw [← hcd]; exact hpb)] at h9; exact h9)
      rw [hcd] at hY
   case' n14 =>
    refine br (fun hc18 => ?y18) (fun hc18 => ?n18)
    case' y18 =>
     have hl3 : (splitW 46 s).length = 3 := by omega
     have hcd : candR (splitW 46 s) = ⟨1, wd (splitW 46 s) 1, wd (splitW 46 s) 2⟩ := by unfold candR; simp_all
     refine And.intro ⟨T.mixed, by decide +kernel⟩ ?_
     first | refine x_ix (by first | exact wd_ix (i := 0) rfl (by first | exact splitW_pos | omega) | exact wd_ix (i := 1) rfl (by first | exact splitW_pos | omega) | exact wd_ix (i := 2) rfl (by first | exact splitW_pos | omega) | exact wd_ix (i := 3) rfl (by first | exact splitW_pos | omega) | exact wd_ix (i := 4) rfl (by first | exact splitW_pos | omega) | exact wd_ix (i := 5) rfl (by first | exact splitW_pos | omega)) ?_ | refine x_ixI (by first | exact wd_ix (i := 0) rfl (by first | exact splitW_pos | omega) | exact wd_ix (i := 1) rfl (by first | exact splitW_pos | omega) | exact wd_ix (i := 2) rfl (by first | exact splitW_pos | omega) | exact wd_ix (i := 3) rfl (by first | exact splitW_pos | omega) | exact wd_ix (i := 4) rfl (by first | exact splitW_pos | omega) | exact wd_ix (i := 5) rfl (by first | exact splitW_pos | omega)) ?_
     first | refine x_ix (by first | exact wd_ix (i := 0) rfl (by first | exact splitW_pos | omega) | exact wd_ix (i := 1) rfl (by first | exact splitW_pos | omega) | exact wd_ix (i := 2) rfl (by first | exact splitW_pos | omega) | exact wd_ix (i := 3) rfl (by first | exact splitW_pos | omega) | exact wd_ix (i := 4) rfl (by first | exact splitW_pos | omega) | exact wd_ix (i := 5) rfl (by first | exact splitW_pos | omega)) ?_ | refine x_ixI (by first | exact wd_ix (i := 0) rfl (by first | exact splitW_pos | omega) | exact wd_ix (i := 1) rfl (by first | exact splitW_pos | omega) | exact wd_ix (i := 2) rfl (by first | exact splitW_pos | omega) | exact wd_ix (i := 3) rfl (by first | exact splitW_pos | omega) | exact wd_ix (i := 4) rfl (by first | exact splitW_pos | omega) | exact wd_ix (i := 5) rfl (by first | exact splitW_pos | omega)) ?_
     refine x_call T.en_108 (by first | exact place_any ⟨0, noB, wd (splitW 46 s) 1⟩ | exact place_any ⟨0, wd (splitW 46 s) 1, wd (splitW 46 s) 2⟩ | exact place_any ⟨0, noB, noB⟩ | exact place_any ⟨1, noB, wd (splitW 46 s) 1⟩ | exact place_any ⟨1, wd (splitW 46 s) 1, wd (splitW 46 s) 2⟩ | exact place_any ⟨1, noB, noB⟩) ?_
     refine br (fun hg19 => ?y19) (fun hg19 => ?n19)
     case' y19 =>
      have hN := place_no2 (s := s) (by rw [hcd]; exact hg19)
      refine brT ?_
     case' n19 =>
      have hpb : placeB (candR (splitW 46 s)) = true := by rw [hcd]; exact hg19
      refine x_call T.en_92 (by first | exact fieldPrint_any ⟨0, noB, wd (splitW 46 s) 1⟩ | exact fieldPrint_any ⟨0, wd (splitW 46 s) 1, wd (splitW 46 s) 2⟩ | exact fieldPrint_any ⟨0, noB, noB⟩ | exact fieldPrint_any ⟨1, noB, wd (splitW 46 s) 1⟩ | exact fieldPrint_any ⟨1, wd (splitW 46 s) 1, wd (splitW 46 s) 2⟩ | exact fieldPrint_any ⟨1, noB, noB⟩) ?_
      refine br (fun hc21 => ?y21) (fun hc21 => ?n21)
      case' y21 =>
       have hN := place_no3 (s := s) (by rw [hcd]; intro e; apply hc21; rw [if_pos (by rw [← hcd]; exact hpb)]; exact e)
      case' n21 =>
       have hY := placeOf_some hpb (s := s) (by rw [hcd]; have h9 := hc21; rw [if_pos (by rw [← hcd]; exact hpb)] at h9; exact h9)
       rw [hcd] at hY
    case' n18 =>
     have hl2 : ¬ (splitW 46 s).length = 2 := by omega
     have hl3 : ¬ (splitW 46 s).length = 3 := by omega
     have hcd : candR (splitW 46 s) = ⟨1, noB, noB⟩ := by unfold candR; simp_all
     refine x_call T.en_108 (by first | exact place_any ⟨0, noB, wd (splitW 46 s) 1⟩ | exact place_any ⟨0, wd (splitW 46 s) 1, wd (splitW 46 s) 2⟩ | exact place_any ⟨0, noB, noB⟩ | exact place_any ⟨1, noB, wd (splitW 46 s) 1⟩ | exact place_any ⟨1, wd (splitW 46 s) 1, wd (splitW 46 s) 2⟩ | exact place_any ⟨1, noB, noB⟩) ?_
     refine br (fun hg22 => ?y22) (fun hg22 => ?n22)
     case' y22 =>
      have hN := place_no2 (s := s) (by rw [hcd]; exact hg22)
      refine brT ?_
     case' n22 =>
      have hpb : placeB (candR (splitW 46 s)) = true := by rw [hcd]; exact hg22
      refine x_call T.en_92 (by first | exact fieldPrint_any ⟨0, noB, wd (splitW 46 s) 1⟩ | exact fieldPrint_any ⟨0, wd (splitW 46 s) 1, wd (splitW 46 s) 2⟩ | exact fieldPrint_any ⟨0, noB, noB⟩ | exact fieldPrint_any ⟨1, noB, wd (splitW 46 s) 1⟩ | exact fieldPrint_any ⟨1, wd (splitW 46 s) 1, wd (splitW 46 s) 2⟩ | exact fieldPrint_any ⟨1, noB, noB⟩) ?_
      refine br (fun hc24 => ?y24) (fun hc24 => ?n24)
      case' y24 =>
       have hN := place_no3 (s := s) (by rw [hcd]; intro e; apply hc24; rw [if_pos (by rw [← hcd]; exact hpb)]; exact e)
      case' n24 =>
       have hY := placeOf_some hpb (s := s) (by rw [hcd]; have h9 := hc24; rw [if_pos (by rw [← hcd]; exact hpb)] at h9; exact h9)
       rw [hcd] at hY
  case' n13 =>
   have hN := place_no1 (s := s) (by assumption) (by assumption)
 all_goals (refine x_ret ?_; simp only [fitsL, fits, C.asD, and_true] <;> (first | (rw [hN]; exact ⟨rfl, rfl⟩) | (rw [hY]; exact ⟨rfl, rfl⟩)))
end Go.Vm
end
section
namespace Go.Vm
open Go.RowKit Go.Proofs
set_option maxRecDepth 10000
open Go.Proofs.YtmmffeldlhofiaaGreatDoor Punnet.Name Punnet.Num
theorem pairT_sizes {l : List (ByteArray × ByteArray)} (he : ∀ p ∈ l, p.1.size ≤ 12 ∧ p.2.size ≤ 12) : ∀ w ∈ l.map pairT, w.size ≤ 30 := by
  intro w hw
  obtain ⟨p, hp, rfl⟩ := List.mem_map.1 hw
  have := he p hp
  unfold pairT
  rw [← ba_len, mkB_data, List.length_append, List.length_cons, ba_len, ba_len]
  omega
theorem pairT_cat (p : ByteArray × ByteArray) : p.1 ++ ⟨#[62]⟩ ++ p.2 = pairT p := ba_ext (by unfold pairT; rw [mkB_data, ba_app, ba_app]; simp)
def pws (l : List (ByteArray × ByteArray)) (k : Nat) : List ByteArray := (l.take k).map pairT
theorem pws_len {l : List (ByteArray × ByteArray)} {k : Nat} (h : k ≤ l.length) : (pws l k).length = k := by unfold pws; rw [List.length_map, List.length_take]; omega
theorem pairs_take {l : List (ByteArray × ByteArray)} {k : Nat} {p : ByteArray × ByteArray} (hp : l[k]? = some p) : (pws l (k + 1)).map strD = (pws l k).map strD ++ [strD (p.1 ++ ⟨#[62]⟩ ++ p.2)] := by
  unfold pws
  rw [List.take_add_one, hp, pairT_cat]; simp
theorem fieldW_len (f : FieldD) : (fieldW f).length ≤ 4 := by unfold fieldW; split; simp; split; simp; split <;> simp
theorem strs_app {a : ByteArray} {l : List ByteArray} : [strD a] ++ l.map strD = (a :: l).map strD := rfl
theorem lens_kinds {x : LensD} (h : rightL x = true) : ¬ (x.kind = 2 ∨ x.kind = 3) → placeB x.at_ = true := by
  intro k
  cases rl_of h <;> first | assumption | (exact absurd (.inl rfl) k) | (exact absurd (.inr rfl) k)
theorem joinC_size (c : UInt8) {n : Nat} : ∀ {l : List (List UInt8)}, (∀ w ∈ l, w.length ≤ n) → (joinC c l).length ≤ l.length * (n + 1)
  | [], _ => Nat.zero_le _
  | [w], h => by have := h w (List.mem_cons_self ..); simp only [joinC, List.length_cons, List.length_nil]; omega
  | w :: v :: r, h => by
    have h1 := h w (List.mem_cons_self ..)
    have ih := joinC_size c (l := v :: r) fun u hu => h u (List.mem_cons_of_mem _ hu)
    rw [joinC, List.length_append, List.length_cons, List.length_cons, Nat.add_mul]
    omega
theorem joinW_size (c : UInt8) {n : Nat} {l : List ByteArray} (hl : l.length ≤ 1000) (h : ∀ w ∈ l, w.size ≤ n) (hn : n ≤ 2000 := by decide) : (joinW c l).size ≤ 100000000 := by
  rw [← ba_len, joinW_data]
  have := joinC_size c (n := n) (l := l.map (·.data.toList)) (fun w hw => by obtain ⟨a, ha, rfl⟩ := List.mem_map.1 hw; exact h a ha)
  rw [List.length_map] at this
  have h2 : l.length * (n + 1) ≤ 1000 * (2000 + 1) := Nat.mul_le_mul hl (by omega)
  omega
theorem fieldWords_any (f : FieldD) (h : rightF f = true) : Contract Tryz.prog 73 [fD f] [.d (.row ((fieldW f).map strD))] := by
 refine T.fn [] Tryz.func73 ?_
 obtain ⟨hp, hdz, hcz, hce, hki, hwo⟩ := rightF_size h
 refine x_call T.en_92 (fieldPrint_any f.at_) ?_
 refine br (fun hc1 => ?y1) (fun hc1 => ?n1)
 case' y1 =>
  refine x_call T.en_91 (numPrint_any f.worth hwo) ?_
 case' n1 =>
  refine br (fun hc2 => ?y2) (fun hc2 => ?n2)
  case' y2 =>
   refine x_call T.en_93 (skQuote_any f.deft hdz) ?_
  case' n2 =>
   refine br (fun hc3 => ?y3) (fun hc3 => ?n3)
   case' y3 =>
    refine And.intro ⟨T.mixed, by decide +kernel⟩ ?_
    refine x_call T.en_50 (join_any 44 f.cases (by omega) (joinW_size 44 (n := 20) (by omega) (fun w hw => by have := hce w hw; omega))) ?_
 all_goals (refine x_ret ?_; simp only [fitsL, fits, C.asD, and_true] <;> (rw [if_pos hp]; unfold fieldW; (repeat (first | rw [if_pos (by assumption)] | rw [if_neg (by assumption)])); first | rfl))
theorem skPairs_any (l : List (ByteArray × ByteArray)) (hl : l.length ≤ 6) (he : ∀ p ∈ l, p.1.size ≤ 12 ∧ p.2.size ≤ 12) : Contract Tryz.prog 94 [.row (l.map pairD)] [.d (.sc (.string (pairsT l)))] := by
 refine T.fn [] Tryz.func94 ?_
 refine x_len ?_
 refine xnil 3 500003 9 rfl (by decide) (by decide +kernel) ?_
 refine xloopR (fb := []) T.ok (Nat.le_of_ble_eq_true rfl) [6, 7] (fun (k : Nat) => [(8, .c (.d (.sc (.int .i64 (k : Nat))))), (3, .c (.own 500003 9 ((pws l k).map strD)))]) (fun k => k ≤ l.length ∧ True) (fun k => l.length - k) 0 ⟨Nat.zero_le _, trivial⟩ (x_ent (by first | rfl | (simp only [Tr.get]; simp; done)) (x_ent (by first | rfl | (simp only [Tr.get]; simp; done)) trivial)) ?_
 rintro k ⟨hk, hi⟩
 refine br (fun hc1 => ?y1) (fun hc1 => ?n1)
 case' y1 =>
  obtain ⟨p, hp⟩ := elem_at hc1
  have hkl := lt_len hp
  have hps := he p (List.mem_of_getElem? hp)
  have hpw := pws_len hk
  first | refine x_ix (by exact mapAt hp) ?_ | refine x_ixI (by exact mapAt hp) ?_
  refine x_cat ?_ (h := by ((try simp only [ByteArray.size_append, lit_size, List.size_toArray, List.length_map, List.length_append, List.length_cons, List.length_nil, List.length_take]); omega))
  refine x_cat ?_ (h := by ((try simp only [ByteArray.size_append, lit_size, List.size_toArray, List.length_map, List.length_append, List.length_cons, List.length_nil, List.length_take]); omega))
  first | refine x_app ?_ (by first | exact str1_wide | exact strsl_wide _ | (intro x hx; cases hx)) (hz := by first | exact pairT_snoc | exact pairT_one | exact rfl | rfl) (h1 := by unfold maxLen; ((try simp only [ByteArray.size_append, lit_size, List.size_toArray, List.length_map, List.length_append, List.length_cons, List.length_nil, List.length_take]); omega)) (h2 := by ((try simp only [ByteArray.size_append, lit_size, List.size_toArray, List.length_map, List.length_append, List.length_cons, List.length_nil, List.length_take]); omega)) | refine x_appN ?_ (by first | exact str1_wide | exact strsl_wide _ | (intro x hx; cases hx)) (h1 := by unfold maxLen; ((try simp only [ByteArray.size_append, lit_size, List.size_toArray, List.length_map, List.length_append, List.length_cons, List.length_nil, List.length_take]); omega)) (h2 := by ((try simp only [ByteArray.size_append, lit_size, List.size_toArray, List.length_map, List.length_append, List.length_cons, List.length_nil, List.length_take]); omega))
  first | refine x_inc ?_ (h := by ((try simp only [ByteArray.size_append, lit_size, List.size_toArray, List.length_map, List.length_append, List.length_cons, List.length_nil, List.length_take]); omega)) | refine x_add ?_ (h := by first | exact IntWalk.i64_in _ (by ((try simp only [ByteArray.size_append, lit_size, List.size_toArray, List.length_map, List.length_append, List.length_cons, List.length_nil, List.length_take]); omega)) | rfl) | refine x_bin rfl rfl ?_
  refine x_rnd (k + 1) ⟨lt_len hp, trivial⟩ (by (try dsimp only); have := lt_len hp; omega) rfl (x_ent (by first | rfl | (simp only [Tr.get]; simp; done)) (x_ent (by simp only [Tr.get]; first | (rw [pairs_take hp]; done) | (rw [pairs_take hp]; rfl)) trivial)) rfl
 case' n1 =>
  have hend : l.take k = l := List.take_of_length_le (past_end hc1)
  refine x_call T.en_50 (join_any 44 (pws l k) (by unfold pws; rw [List.length_map, hend]; omega) (joinW_size 44 (n := 30) (by unfold pws; rw [List.length_map, hend]; omega) (pairT_sizes fun p hp => he p (List.mem_of_mem_take hp)))) ?_
 all_goals (refine x_ret ?_; simp only [fitsL, fits, C.asD, and_true] <;> (unfold pws; rw [hend]; rfl))
theorem lensWords_any (x : LensD) (h : rightL x = true) : Contract Tryz.prog 49 [lD x] [.d (.row ((lensW x).map strD))] := by
 refine T.fn [] Tryz.func49 ?_
 have z := rightL_size h
 have hkn := rightL_kd h
 have hk2 := lens_kinds h
 have hfw := fieldW_len x.field
 refine x_call T.en_92 (fieldPrint_any x.at_) ?_
 refine br (fun hc1 => ?y1) (fun hc1 => ?n1)
 case' n1 =>
  refine br (fun hc2 => ?y2) (fun hc2 => ?n2)
  case' y2 =>
   refine x_call T.en_73 (fieldWords_any x.field (z.field.1 (by omega))) ?_
   first | refine x_app ?_ (by first | exact str1_wide | exact strsl_wide _ | (intro x hx; cases hx)) (hz := by first | exact strs_app | exact rfl | rfl) (h1 := by unfold maxLen; ((try simp only [List.length_map, List.length_cons, List.length_nil]); omega)) (h2 := by ((try simp only [List.length_map, List.length_cons, List.length_nil]); omega)) | refine x_appN ?_ (by first | exact str1_wide | exact strsl_wide _ | (intro x hx; cases hx)) (h1 := by unfold maxLen; ((try simp only [List.length_map, List.length_cons, List.length_nil]); omega)) (h2 := by ((try simp only [List.length_map, List.length_cons, List.length_nil]); omega))
  case' n2 =>
   refine br (fun hc3 => ?y3) (fun hc3 => ?n3)
   case' y3 =>
    refine x_call T.en_73 (fieldWords_any x.field (z.field.1 (by omega))) ?_
    first | refine x_app ?_ (by first | exact str1_wide | exact strsl_wide _ | (intro x hx; cases hx)) (hz := by first | exact strs_app | exact rfl | rfl) (h1 := by unfold maxLen; ((try simp only [List.length_map, List.length_cons, List.length_nil]); omega)) (h2 := by ((try simp only [List.length_map, List.length_cons, List.length_nil]); omega)) | refine x_appN ?_ (by first | exact str1_wide | exact strsl_wide _ | (intro x hx; cases hx)) (h1 := by unfold maxLen; ((try simp only [List.length_map, List.length_cons, List.length_nil]); omega)) (h2 := by ((try simp only [List.length_map, List.length_cons, List.length_nil]); omega))
   case' n3 =>
    refine br (fun hc4 => ?y4) (fun hc4 => ?n4)
    case' n4 =>
     refine br (fun hc5 => ?y5) (fun hc5 => ?n5)
     case' n5 =>
      refine br (fun hc6 => ?y6) (fun hc6 => ?n6)
      case' y6 =>
       refine And.intro ⟨T.mixed, by decide +kernel⟩ ?_
       refine x_call T.en_91 (numPrint_any x.factor z.factor) ?_
      case' n6 =>
       refine br (fun hc7 => ?y7) (fun hc7 => ?n7)
       case' y7 =>
        refine And.intro ⟨T.mixed, by decide +kernel⟩ ?_
        refine x_call T.en_91 (numPrint_any x.factor z.factor) ?_
       case' n7 =>
        refine br (fun hc8 => ?y8) (fun hc8 => ?n8)
        case' y8 =>
         refine x_call T.en_93 (skQuote_any x.other z.other) ?_
        case' n8 =>
         refine br (fun hc9 => ?y9) (fun hc9 => ?n9)
         case' y9 =>
          refine x_call T.en_93 (skQuote_any x.other z.other) ?_
         case' n9 =>
          refine And.intro ⟨T.mixed, by decide +kernel⟩ ?_
          refine x_call T.en_94 (by first | exact skPairs_any x.forth z.forth.1 z.forth.2 | exact skPairs_any x.back z.back.1 z.back.2) ?_
          refine x_call T.en_94 (by first | exact skPairs_any x.forth z.forth.1 z.forth.2 | exact skPairs_any x.back z.back.1 z.back.2) ?_
 all_goals (refine x_ret ?_; simp only [fitsL, fits, C.asD, and_true] <;> ((try rw [if_pos (hk2 (by omega))]); unfold lensW; (repeat (first | rw [if_pos (by omega)] | rw [if_neg (by omega)])); first | done | rfl))
end Go.Vm
end
section
namespace Go.Vm
open Go.RowKit Go.Proofs
set_option maxRecDepth 10000
theorem v_23 (x : TagD) : conc (tD x) = some (.agg #[.int .i64 x.r, .int .i64 x.n]) := rfl
theorem rune_23 (r s : TagD) (x y : Operand) (w : World) : (do eqGuard .eql 23 x y (.agg #[.int .i64 r.r, .int .i64 r.n]) (.agg #[.int .i64 s.r, .int .i64 s.n]); binOp .eql 23 (.agg #[.int .i64 r.r, .int .i64 r.n]) (.agg #[.int .i64 s.r, .int .i64 s.n]) : Sem Value).run Tryz.prog w = .ok (.bool (decide (r = s))) w := by
 obtain ⟨a, b⟩ := r
 obtain ⟨a', b'⟩ := s
 simp [go_sem, eq_strs]
 repeat (first | (split <;> simp_all; done) | split)
 all_goals simp_all
theorem xeq_23e {x y : Operand} {K : Value → Prop} (r s : TagD) (hK : K (.bool (decide (r = s)))) : ∃ u v r', (conc (tD r) = some u ∧ conc (tD s) = some v) ∧ (∀ w, (do eqGuard .eql 23 x y u v; binOp .eql 23 u v : Sem Value).run Tryz.prog w = .ok r' w) ∧ plainV r' = true ∧ K r' := x_eqS (v_23 r) (v_23 s) (fun w => rune_23 r s x y w) rfl hK
theorem runn_23 (r s : TagD) (x y : Operand) (w : World) : (do eqGuard .neq 23 x y (.agg #[.int .i64 r.r, .int .i64 r.n]) (.agg #[.int .i64 s.r, .int .i64 s.n]); binOp .neq 23 (.agg #[.int .i64 r.r, .int .i64 r.n]) (.agg #[.int .i64 s.r, .int .i64 s.n]) : Sem Value).run Tryz.prog w = .ok (.bool (!decide (r = s))) w := by
 obtain ⟨a, b⟩ := r
 obtain ⟨a', b'⟩ := s
 simp [go_sem, eq_strs]
 repeat (first | (split <;> simp_all; done) | split)
 all_goals simp_all
theorem xeq_23n {x y : Operand} {K : Value → Prop} (r s : TagD) (hK : K (.bool (!decide (r = s)))) : ∃ u v r', (conc (tD r) = some u ∧ conc (tD s) = some v) ∧ (∀ w, (do eqGuard .neq 23 x y u v; binOp .neq 23 u v : Sem Value).run Tryz.prog w = .ok r' w) ∧ plainV r' = true ∧ K r' := x_eqS (v_23 r) (v_23 s) (fun w => runn_23 r s x y w) rfl hK
theorem tag_rep {ro : Roles} {w : World} {v : Value} {t : TagD} (h : Rep ro w v (tD t)) : v = .agg #[.int .i64 t.r, .int .i64 t.n] := rep_conc h (v_23 t)
theorem tag_check (b : Bool) (t : TagD) (w : World) : (Instr.checkKey b 10000 23 (.agg #[.int .i64 t.r, .int .i64 t.n])).run Tryz.prog w = .ok () w := pureRun_run (by rfl) w
theorem tag_eql (r s : TagD) (w : World) : (binOp .eql 23 (.agg #[.int .i64 r.r, .int .i64 r.n]) (.agg #[.int .i64 s.r, .int .i64 s.n])).run Tryz.prog w = .ok (.bool (decide (r = s))) w := by
 obtain ⟨a, b⟩ := r
 obtain ⟨a', b'⟩ := s
 simp [go_sem]
 repeat (first | (split <;> simp_all; done) | split)
 all_goals simp_all
theorem tag_equal (r s : TagD) (w : World) : (Op.equal 23 (.agg #[.int .i64 r.r, .int .i64 r.n]) (.agg #[.int .i64 s.r, .int .i64 s.n])).run Tryz.prog w = .ok (decide (r = s)) w := by
 have h := tag_eql r s w
 change (Op.equal 23 _ _ >>= fun r => pure (Value.bool r)).run Tryz.prog w = _ at h
 rw [Sem.run_bind] at h
 cases hq : (Op.equal 23 (.agg #[.int .i64 r.r, .int .i64 r.n]) (.agg #[.int .i64 s.r, .int .i64 s.n])).run Tryz.prog w with
 | ok b w1 =>
  rw [hq] at h
  simp only [Result.andThen_ok, Sem.run_pure, Result.ok.injEq, Value.bool.injEq] at h
  rw [h.1, h.2]
 | halt e w1 => rw [hq] at h; cases h
theorem tagKey : KeyOk Tryz.prog 23 (fun d => ∃ t : TagD, d = tD t) where
 kind := ⟨_, Tryz.underlying23⟩
 check := by rintro ro w v d b ⟨t, rfl⟩ h; rw [tag_rep h]; exact tag_check b t w
 same := by
  rintro ro w v u d e ⟨t, rfl⟩ ⟨s, rfl⟩ h k
  rw [tag_rep h, tag_rep k]
  exact ⟨_, tag_equal t s w, by rw [decide_eq_true_eq]; exact ⟨fun e => by rw [e], tD_inj⟩⟩
 bits := by rintro ro w v u d ⟨t, rfl⟩ h k; rw [tag_rep h, tag_rep k]; simp [Instr.sameBits]
theorem zeroNode : zeroD Tryz.prog 123 = some (nD noNode) := by kernel_rfl
end Go.Vm
end
section
namespace Go.Vm
open Go.RowKit Go.Proofs
set_option maxRecDepth 10000
theorem tag_any (t : TagD) : Contract Tryz.prog 90 [tD t] [.d (.sc (.bool (tagB t)))] := by
 refine T.fn [] Tryz.func90 ?_
 refine br (fun hg1 => ?y1) (fun hg1 => ?n1)
 case' y1 =>
  refine br (fun hg2 => ?y2) (fun hg2 => ?n2)
  case' y2 =>
   refine br (fun hg3 => ?y3) (fun hg3 => ?n3)
  case' n2 =>
   refine brF ?_
 case' n1 =>
  refine brF ?_
  refine brF ?_
 all_goals (refine x_ret ?_; simp only [fitsL, fits, C.asD, and_true] <;> (refine scb ?_; unfold tagB; first | (simp_all; done) | (simp_all; omega) | (rw [Bool.eq_iff_iff]; simp_all <;> omega)))
theorem refTag_any (t : TagD) : Contract Tryz.prog 51 [tD t] [.d (.sc (.bool (tagB t)))] := by
 refine T.fn [] Tryz.func51 ?_
 refine br (fun hg1 => ?y1) (fun hg1 => ?n1)
 case' y1 =>
  refine br (fun hg2 => ?y2) (fun hg2 => ?n2)
  case' y2 =>
   refine br (fun hg3 => ?y3) (fun hg3 => ?n3)
  case' n2 =>
   refine brF ?_
 case' n1 =>
  refine brF ?_
  refine brF ?_
 all_goals (refine x_ret ?_; simp only [fitsL, fits, C.asD, and_true] <;> (refine scb ?_; unfold tagB; first | (simp_all; done) | (simp_all; omega) | (rw [Bool.eq_iff_iff]; simp_all <;> omega)))
theorem refLess_tag (a b : TagD) : Contract Tryz.prog 84 [tD a, tD b] [.d (.sc (.bool (lessT a b)))] := by
 refine T.fn [] Tryz.func84 ?_
 refine br (fun hg1 => ?y1) (fun hg1 => ?n1)
 case' n1 =>
  refine br (fun hg2 => ?y2) (fun hg2 => ?n2)
 all_goals (refine x_ret ?_; simp only [fitsL, fits, C.asD, and_true] <;> (refine scb ?_; unfold lessT; first | (simp_all; done) | (rw [Bool.eq_iff_iff]; (split <;> simp_all) <;> omega) | (simp_all <;> omega)))
theorem root_any  : Contract Tryz.prog 89 [] [.d (tD noTag)] := by
 refine T.fn [] Tryz.func89 ?_
 all_goals (refine x_ret ?_; simp only [fitsL, fits, C.asD, and_true] <;> (rfl))
end Go.Vm
end
section
namespace Go.Vm
open Go.RowKit Go.Proofs
set_option maxRecDepth 10000
theorem edge_any (e : EdgeD) (he : okX e.lens) : Contract Tryz.prog 47 [eD e] [.d (.sc (.bool (edgeB e)))] := by
 refine T.fn [] Tryz.func47 ?_
 refine x_call T.en_90 (tag_any _) ?_
 refine br (fun hc1 => ?y1) (fun hc1 => ?n1)
 case' n1 =>
  refine And.intro ⟨T.mixed, by decide +kernel⟩ ?_
  refine x_call T.en_89 (root_any) ?_
  first | refine xeq_23n _ _ ?_ | refine xeq_23n _ noTag ?_ | refine xeq_23n noTag _ ?_
  refine br (fun hg2 => ?y2) (fun hg2 => ?n2)
  case' y2 =>
   refine x_call T.en_90 (tag_any _) ?_
   refine br (fun hg3 => ?y3) (fun hg3 => ?n3)
   case' y3 =>
    refine brT ?_
   case' n3 =>
    first | refine xeq_23e _ _ ?_ | refine xeq_23e _ noTag ?_ | refine xeq_23e noTag _ ?_
    refine br (fun hc5 => ?y5) (fun hc5 => ?n5)
    case' n5 =>
     refine br (fun hg6 => ?y6) (fun hg6 => ?n6)
     case' y6 =>
      refine br (fun hg7 => ?y7) (fun hg7 => ?n7)
      case' y7 =>
       refine x_call T.en_58 (lensRight_any _ he) ?_
     case' n6 =>
      refine brF ?_
  case' n2 =>
   refine brF ?_
   refine br (fun hg10 => ?y10) (fun hg10 => ?n10)
   case' y10 =>
    refine br (fun hg11 => ?y11) (fun hg11 => ?n11)
    case' y11 =>
     refine x_call T.en_58 (lensRight_any _ he) ?_
   case' n10 =>
    refine brF ?_
 all_goals (refine x_ret ?_; simp only [fitsL, fits, C.asD, and_true] <;> (refine scb ?_; unfold edgeB; first | (simp_all; done) | (rw [Bool.eq_iff_iff]; simp_all <;> omega)))
theorem same_any (e f : EdgeD) (he : okX e.lens) : Contract Tryz.prog 126 [eD e, eD f] [.d (.sc (.bool (decide (e = f))))] := by
 refine T.fn [] Tryz.func126 ?_
 first | refine xeq_23e _ _ ?_ | refine xeq_23e _ noTag ?_ | refine xeq_23e noTag _ ?_
 refine br (fun hg1 => ?y1) (fun hg1 => ?n1)
 case' y1 =>
  first | refine xeq_23e _ _ ?_ | refine xeq_23e _ noTag ?_ | refine xeq_23e noTag _ ?_
  refine br (fun hg2 => ?y2) (fun hg2 => ?n2)
  case' y2 =>
   refine x_call T.en_107 (lensSame_any _ _ he) ?_
 case' n1 =>
  refine brF ?_
 all_goals (refine x_ret ?_; simp only [fitsL, fits, C.asD, and_true] <;> (refine scb ?_; clear he; cases e; cases f; simp_all))
theorem own_any (e : EdgeD) (he : okX e.lens) : Contract Tryz.prog 87 [eD e] [.d (eD e)] := by
 refine T.fn [] Tryz.func87 ?_
 refine And.intro ⟨T.mixed, by decide +kernel⟩ ?_
 refine x_call T.en_131 (lensOwn_any _ he) ?_
 all_goals (refine x_ret ?_; simp only [fitsL, fits, C.asD, and_true] <;> (rfl))
end Go.Vm
end
section
namespace Go.Vm
open Go.RowKit Go.Proofs
set_option maxRecDepth 10000
open Go.Proofs.YtmmffeldlhofiaaGreatDoor Punnet.Name Punnet.Num
theorem strs_app2 {a b : ByteArray} {l : List ByteArray} : [strD a, strD b] ++ l.map strD = (a :: b :: l).map strD := rfl
theorem placeT_size {r : RefD} (h : placeB r = true) : (placeT r).size ≤ 40 := by
  obtain ⟨_, h1, h2⟩ := placeB_size h
  rw [← ba_len, show (placeT r).data.toList = placeL r from mkB_data _]
  unfold placeL
  have h4 := scopeL_len r
  unfold scopeL at h4
  rw [List.length_append, h4, List.length_append, List.length_cons, ba_len]
  split
  · rw [List.length_nil]; omega
  · rw [List.length_cons, ba_len]; omega
theorem quoteB_size (s : ByteArray) : (quoteB s).size ≤ 3 * s.size + 2 := by
  rw [quote_size]
  unfold quoteL
  rw [List.length_cons, List.length_append, List.length_singleton]
  have : ∀ l : List UInt8, (l.flatMap signOf).length ≤ 3 * l.length := by
    intro l
    induction l with
    | nil => simp
    | cons c l ih => rw [List.flatMap_cons, List.length_append, List.length_cons]; have : (signOf c).length ≤ 3 := by unfold signOf; split <;> simp
                     omega
  have := this s.data.toList
  rw [ba_len] at this
  omega
theorem join_small {c : UInt8} {n m : Nat} {l : List ByteArray} (hl : l.length ≤ m) (h : ∀ w ∈ l, w.size ≤ n) : (joinW c l).size ≤ m * (n + 1) := by
  rw [← ba_len, joinW_data]
  have := joinC_size c (n := n) (l := l.map (·.data.toList)) (fun w hw => by obtain ⟨a, ha, rfl⟩ := List.mem_map.1 hw; exact h a ha)
  rw [List.length_map] at this
  exact Nat.le_trans this (Nat.mul_le_mul_right _ hl)
theorem fieldW_sizes {f : FieldD} (h : rightF f = true) : ∀ w ∈ fieldW f, w.size ≤ 200 := by
  obtain ⟨hp, hdz, hcz, hce, hki, hwo⟩ := rightF_size h
  have h1 := placeT_size hp
  have h2 := print_size hwo
  have h3 := quoteB_size f.deft
  have h4 := join_small (c := 44) hcz hce
  unfold fieldW
  split
  · simp only [List.forall_mem_cons, List.not_mem_nil, false_implies, implies_true, and_true]; exact ⟨by decide, by omega, by omega⟩
  split
  · simp only [List.forall_mem_cons, List.not_mem_nil, false_implies, implies_true, and_true]; exact ⟨by decide, by omega, by omega⟩
  split
  · simp only [List.forall_mem_cons, List.not_mem_nil, false_implies, implies_true, and_true]; exact ⟨by decide, by omega, by omega, by omega⟩
  · simp only [List.forall_mem_cons, List.not_mem_nil, false_implies, implies_true, and_true]; exact ⟨by decide, by omega⟩
theorem lensW_len (x : LensD) : (lensW x).length ≤ 6 := by
  have := fieldW_len x.field
  unfold lensW
  repeat (first | (split; (simp only [List.length_cons, List.length_nil]; omega)) | split)
  all_goals (simp only [List.length_cons, List.length_nil]; omega)
theorem lensW_sizes {x : LensD} (h : rightL x = true) : ∀ w ∈ lensW x, w.size ≤ 200 := by
  cases rl_of h with
  | add f hf => show ∀ w ∈ _ :: fieldW f, _; simp only [List.forall_mem_cons]; exact ⟨by decide, fieldW_sizes hf⟩
  | remove f hf => show ∀ w ∈ _ :: fieldW f, _; simp only [List.forall_mem_cons]; exact ⟨by decide, fieldW_sizes hf⟩
  | convert r n o a b hp hn ho h1 h2 =>
    have q1 := placeT_size hp
    have q2 := nameB_size hn
    have q3 := nameB_size ho
    have t1 := rightT_both h1 h2
    have q4 := join_small (c := 44) (m := 6) (l := a.map pairT) (by rw [List.length_map]; exact (rightT_size h1).1) (pairT_sizes t1.1)
    have q5 := join_small (c := 44) (m := 6) (l := b.map pairT) (by rw [List.length_map]; exact (rightT_size h2).1) (pairT_sizes t1.2)
    show ∀ w ∈ [_, placeT r, n, o, pairsT a, pairsT b], _
    simp only [List.forall_mem_cons, List.not_mem_nil, false_implies, implies_true, and_true]
    exact ⟨by decide, by omega, by omega, by omega, by unfold pairsT; omega, by unfold pairsT; omega⟩
  | split r n o k hp hn ho hk =>
    have q1 := placeT_size hp
    have q2 := nameB_size hn
    have q3 := nameB_size ho
    have q4 := print_size hk
    show ∀ w ∈ [_, placeT r, n, o, printB k], _
    simp only [List.forall_mem_cons, List.not_mem_nil, false_implies, implies_true, and_true]
    exact ⟨by decide, by omega, by omega, by omega, by omega⟩
  | merge r n o k hp hn ho hk =>
    have q1 := placeT_size hp
    have q2 := nameB_size hn
    have q3 := nameB_size ho
    have q4 := print_size hk
    show ∀ w ∈ [_, placeT r, n, o, printB k], _
    simp only [List.forall_mem_cons, List.not_mem_nil, false_implies, implies_true, and_true]
    exact ⟨by decide, by omega, by omega, by omega, by omega⟩
  | wrap r o hp ho =>
    have q1 := placeT_size hp
    have q2 := quoteB_size o
    show ∀ w ∈ [_, placeT r, quoteB o], _
    simp only [List.forall_mem_cons, List.not_mem_nil, false_implies, implies_true, and_true]
    exact ⟨by decide, by omega, by omega⟩
  | unwrap r o hp ho =>
    have q1 := placeT_size hp
    have q2 := quoteB_size o
    show ∀ w ∈ [_, placeT r, quoteB o], _
    simp only [List.forall_mem_cons, List.not_mem_nil, false_implies, implies_true, and_true]
    exact ⟨by decide, by omega, by omega⟩
  | rename r n hp hn =>
    have q1 := placeT_size hp
    have q2 := nameB_size hn
    show ∀ w ∈ [_, placeT r, n], _
    simp only [List.forall_mem_cons, List.not_mem_nil, false_implies, implies_true, and_true]
    exact ⟨by decide, by omega, by omega⟩
  | hoist r hp =>
    have q1 := placeT_size hp
    show ∀ w ∈ [_, placeT r], _
    simp only [List.forall_mem_cons, List.not_mem_nil, false_implies, implies_true, and_true]
    exact ⟨by decide, by omega⟩
  | plunge r n hp hn =>
    have q1 := placeT_size hp
    have q2 := nameB_size hn
    show ∀ w ∈ [_, placeT r, n], _
    simp only [List.forall_mem_cons, List.not_mem_nil, false_implies, implies_true, and_true]
    exact ⟨by decide, by omega, by omega⟩
theorem tagT_size {t : TagD} (h : tagIn t) : (tagT t).size ≤ 70 := by
  have h1 := print_size h.1
  have h2 := print_size h.2
  rw [printB_size] at h1 h2
  unfold tagT
  rw [← ba_len, mkB_data, List.length_append, List.length_cons]
  omega
theorem edgeW_sizes {e : EdgeD} (h : edgeB e = true) : ∀ w ∈ edgeW e, w.size ≤ 200 := by
  obtain ⟨h1, h2, h3⟩ := edgeB_tags h
  have q1 := tagT_size h1
  have q2 := tagT_size h2
  unfold edgeW
  simp only [List.forall_mem_cons]
  exact ⟨by omega, by omega, lensW_sizes h3⟩
theorem skLens_any (x : LensD) (hc : okX x) : Contract Tryz.prog 16 [lD x] [.d (.sc (.string (if rightL x = true then textL x else noB))), .d (.sc (.int .i64 ((if rightL x = true then 0 else 5))))] := by
 refine T.fn [] Tryz.func16 ?_
 refine x_call T.en_58 (lensRight_any x hc) ?_
 refine br (fun hc1 => ?y1) (fun hc1 => ?n1)
 case' y1 =>
  have hr : rightL x = false := hc1
 case' n1 =>
  have hr : rightL x = true := hc1
  refine x_call T.en_49 (lensWords_any x hr) ?_
  refine x_call T.en_50 (join_any 32 (lensW x) (by have := lensW_len x; omega) (joinW_size 32 (n := 200) (by have := lensW_len x; omega) (lensW_sizes hr))) ?_
 all_goals (refine x_ret ?_; simp only [fitsL, fits, C.asD, and_true] <;> (first | (rw [if_pos hr, if_pos hr]; exact ⟨rfl, rfl⟩) | (rw [if_neg (by rw [hr]; decide), if_neg (by rw [hr]; decide)]; exact ⟨rfl, rfl⟩)))
theorem skEdge_any (e : EdgeD) (hc : okX e.lens) : Contract Tryz.prog 10 [eD e] [.d (.sc (.string (if edgeB e = true then textE e else noB))), .d (.sc (.int .i64 ((if edgeB e = true then 0 else 5))))] := by
 refine T.fn [1018] Tryz.func10 ?_
 refine x_call T.en_47 (edge_any e hc) ?_
 refine br (fun hc1 => ?y1) (fun hc1 => ?n1)
 case' y1 =>
  have hr : edgeB e = false := hc1
 case' n1 =>
  have hr : edgeB e = true := hc1
  have ht := edgeB_tags hr
  have hlw := lensW_len e.lens
  refine And.intro ⟨T.mixed, by decide +kernel⟩ ?_
  refine x_call T.en_48 (scriptTag_any e.id ht.1) ?_
  refine x_call T.en_48 (scriptTag_any e.parent ht.2.1) ?_
  refine x_call T.en_49 (lensWords_any e.lens ht.2.2) ?_
  first | refine x_app ?_ (by first | exact str1_wide | exact strsl_wide _ | (intro x hx; cases hx)) (hz := by first | exact strs_app2 | exact rfl | rfl) (h1 := by unfold maxLen; ((try simp only [List.length_map, List.length_cons, List.length_nil]); omega)) (h2 := by ((try simp only [List.length_map, List.length_cons, List.length_nil]); omega)) | refine x_appN ?_ (by first | exact str1_wide | exact strsl_wide _ | (intro x hx; cases hx)) (h1 := by unfold maxLen; ((try simp only [List.length_map, List.length_cons, List.length_nil]); omega)) (h2 := by ((try simp only [List.length_map, List.length_cons, List.length_nil]); omega))
  refine x_call T.en_50 (join_any 32 (edgeW e) (by have := lensW_len e.lens; show _ + 1 + 1 ≤ _; omega) (joinW_size 32 (n := 200) (by have := lensW_len e.lens; show _ + 1 + 1 ≤ _; omega) (edgeW_sizes hr))) ?_
 all_goals (refine x_ret ?_; simp only [fitsL, fits, C.asD, and_true] <;> (first | (rw [if_pos hr, if_pos hr]; exact ⟨rfl, rfl⟩) | (rw [if_neg (by rw [hr]; decide), if_neg (by rw [hr]; decide)]; exact ⟨rfl, rfl⟩)))
end Go.Vm
end
section
namespace Go.Vm
open Go.RowKit Go.Proofs
set_option maxRecDepth 10000
open Go.Proofs.YtmmffeldlhofiaaGreatDoor Punnet.Name Punnet.Num
theorem ix5 {s : ByteArray} {k : Nat} {c : UInt8} (h : s[5 + k]? = some c) : s[((5 + k : Nat) : Int).toNat]? = some c := by rw [Int.toNat_natCast]; exact h
theorem ref13Read_any (s : ByteArray) (hs : s.size ≤ 1000000) : Contract Tryz.prog 102 [.sc (.string (s))] [.d (rD ((placeOf s).getD noRef)), .d (.sc (.bool ((placeOf s).isSome)))] := by
 refine T.fn [] Tryz.func102 ?_
 refine x_len ?_
 refine br (fun hg1 => ?y1) (fun hg1 => ?n1)
 case' y1 =>
  have hN := place2_no1 (s := s) (by omega)
  refine brT ?_
 case' n1 =>
  first | refine x_bnd ?_ | refine x_bndI ?_
  refine x_str ?_ (h1 := by (first | omega | (show (5 : Nat) ≤ _; omega))) (h2 := by (first | omega | (show (5 : Nat) ≤ _; omega)))
  refine br (fun hg3 => ?y3) (fun hg3 => ?n3)
  case' y3 =>
   have hn1 := hg3
   first | refine x_bnd ?_ | refine x_bndI ?_
   refine x_str ?_ (h1 := by (first | omega | (show (5 : Nat) ≤ _; omega))) (h2 := by (first | omega | (show (5 : Nat) ≤ _; omega)))
   refine br (fun hc4 => ?y4) (fun hc4 => ?n4)
   case' y4 =>
    have hN := place2_no2 (s := s) hn1 hc4
   case' n4 =>
    have hs6 : 6 ≤ s.size := by omega
    obtain ⟨b0, hb0⟩ : ∃ b, s[0]? = some b := ⟨_, getElem?_pos s 0 (by omega)⟩
    first | refine x_bnd ?_ | refine x_bndI ?_
    refine x_str ?_ (h1 := by (first | omega | (show (5 : Nat) ≤ _; omega))) (h2 := by (first | omega | (show (5 : Nat) ≤ _; omega)))
    first | refine x_ch (by first | exact hb0 | exact ix5 hc) ?_ | refine x_chI (by first | exact hb0 | exact ix5 hc) ?_
    refine br (fun hc5 => ?y5) (fun hc5 => ?n5)
    case' y5 =>
     have hb1 : b0 = 108 := by rw [← UInt8.toNat_inj]; show b0.toNat = 108; omega
     obtain ⟨sc, hsc, hs0⟩ : ∃ sc : Int, sc = 1 ∧ (if s[0]? = some 108 then (1 : Int) else 0) = sc := ⟨1, rfl, by rw [hb0, hb1]; rfl⟩
     refine xloopR (fb := []) T.ok (Nat.le_of_ble_eq_true rfl) [0, 2] (fun (k : Nat) => [(5, .c (.d (.sc (.int .i64 ((5 + k : Nat) : Int))))), (4, .box [.sc (.int .i64 sc), .sc (.string (gnTo s k).1), .sc (.string (gnTo s k).2)])]) (fun k => 5 + k ≤ s.size) (fun k => s.size - k) 0 (by omega) (x_ent (by first | rfl | (simp only [Tr.get]; simp; done)) (x_ent (by subst hsc; rfl) trivial)) ?_
     rintro k hk
     refine x_len ?_
     refine br (fun hc6 => ?y6) (fun hc6 => ?n6)
     case' y6 =>
      obtain ⟨c, hc⟩ : ∃ c, s[5 + k]? = some c := ⟨_, getElem?_pos s (5 + k) (by omega)⟩
      first | refine x_ch (by first | exact hb0 | exact ix5 hc) ?_ | refine x_chI (by first | exact hb0 | exact ix5 hc) ?_
      refine br (fun hg7 => ?y7) (fun hg7 => ?n7)
      case' y7 =>
       have hc46 : s[5 + k]? = some 46 := by rw [hc, show c = 46 by rw [← UInt8.toNat_inj]; show c.toNat = 46; omega]
       refine br (fun hc8 => ?y8) (fun hc8 => ?n8)
       case' y8 =>
        have hgn : gnTo s (k + 1) = (s.extract 5 (5 + k), s.extract (5 + k + 1) s.size) := by rw [gnTo, if_pos ⟨hc46, hc8⟩]
        first | refine x_bnd ?_ | refine x_bndI ?_
        first | refine x_bnd ?_ | refine x_bndI ?_
        refine x_str ?_ (h1 := by (first | omega | (show (5 : Nat) ≤ _; omega))) (h2 := by (first | omega | (show (5 : Nat) ≤ _; omega)))
        first | refine x_inc ?_ (h := by (first | omega | (show (5 : Nat) ≤ _; omega))) | refine x_add ?_ (h := by first | exact IntWalk.i64_in _ (by (first | omega | (show (5 : Nat) ≤ _; omega))) | rfl) | refine x_bin rfl rfl ?_
        first | refine x_bnd ?_ | refine x_bndI ?_
        refine x_str ?_ (h1 := by (first | omega | (show (5 : Nat) ≤ _; omega))) (h2 := by (first | omega | (show (5 : Nat) ≤ _; omega)))
        first | refine x_inc ?_ (h := by (first | omega | (show (5 : Nat) ≤ _; omega))) | refine x_add ?_ (h := by first | exact IntWalk.i64_in _ (by (first | omega | (show (5 : Nat) ≤ _; omega))) | rfl) | refine x_bin rfl rfl ?_
        refine x_rnd (k + 1) (by (try dsimp only); omega) (by (try dsimp only); omega) rfl (x_ent (by first | rfl | (simp only [Tr.get]; simp; done)) (x_ent (by simp only [Tr.get]; first | (rw [hgn]; done) | (rw [hgn]; rfl)) trivial)) rfl
       case' n8 =>
        have hgn : gnTo s (k + 1) = gnTo s k := by rw [gnTo, if_neg (fun e => hc8 e.2)]
        first | refine x_inc ?_ (h := by (first | omega | (show (5 : Nat) ≤ _; omega))) | refine x_add ?_ (h := by first | exact IntWalk.i64_in _ (by (first | omega | (show (5 : Nat) ≤ _; omega))) | rfl) | refine x_bin rfl rfl ?_
        refine x_rnd (k + 1) (by (try dsimp only); omega) (by (try dsimp only); omega) rfl (x_ent (by first | rfl | (simp only [Tr.get]; simp; done)) (x_ent (by simp only [Tr.get]; first | (rw [hgn]; done) | (rw [hgn]; rfl)) trivial)) rfl
      case' n7 =>
       have hgn : gnTo s (k + 1) = gnTo s k := by rw [gnTo, if_neg]; rintro ⟨e, _⟩; rw [hc] at e; injection e with e; subst e; exact hg7 rfl
       refine brF ?_
       first | refine x_inc ?_ (h := by (first | omega | (show (5 : Nat) ≤ _; omega))) | refine x_add ?_ (h := by first | exact IntWalk.i64_in _ (by (first | omega | (show (5 : Nat) ≤ _; omega))) | rfl) | refine x_bin rfl rfl ?_
       refine x_rnd (k + 1) (by (try dsimp only); omega) (by (try dsimp only); omega) rfl (x_ent (by first | rfl | (simp only [Tr.get]; simp; done)) (x_ent (by simp only [Tr.get]; first | (rw [hgn]; done) | (rw [hgn]; rfl)) trivial)) rfl
     case' n6 =>
      obtain rfl : k = s.size - 5 := by omega
      have hcd : candR2 s = ⟨sc, (gnTo s (s.size - 5)).1, (gnTo s (s.size - 5)).2⟩ := by unfold candR2; rw [hs0]
      refine x_call T.en_60 (refPlace_any ⟨sc, (gnTo s (s.size - 5)).1, (gnTo s (s.size - 5)).2⟩) ?_
      refine br (fun hg10 => ?y10) (fun hg10 => ?n10)
      case' y10 =>
       have hN := place2_no3 (s := s) (by rw [hcd]; exact hg10)
       refine brT ?_
      case' n10 =>
       have hpb : placeB (candR2 s) = true := by rw [hcd]; exact hg10
       refine x_call T.en_67 (ref13Print_any ⟨sc, (gnTo s (s.size - 5)).1, (gnTo s (s.size - 5)).2⟩) ?_
       refine br (fun hc12 => ?y12) (fun hc12 => ?n12)
       case' y12 =>
        have hN := place2_no4 (s := s) (by rw [hcd]; intro e; apply hc12; rw [if_pos (by rw [← hcd]; exact hpb)]; exact e)
       case' n12 =>
        have hY := placeOf_some hpb (s := s) (by rw [hcd]; have h9 := hc12; rw [if_pos (by rw [← hcd]; exact hpb)] at h9; exact h9)
        rw [hcd] at hY
    case' n5 =>
     have hb1 : ¬ b0 = 108 := by rintro rfl; exact hc5 rfl
     obtain ⟨sc, hsc, hs0⟩ : ∃ sc : Int, sc = 0 ∧ (if s[0]? = some 108 then (1 : Int) else 0) = sc := ⟨0, rfl, by rw [hb0, if_neg (by simpa using hb1)]⟩
     refine xloopR (fb := []) T.ok (Nat.le_of_ble_eq_true rfl) [0, 2] (fun (k : Nat) => [(5, .c (.d (.sc (.int .i64 ((5 + k : Nat) : Int))))), (4, .box [.sc (.int .i64 sc), .sc (.string (gnTo s k).1), .sc (.string (gnTo s k).2)])]) (fun k => 5 + k ≤ s.size) (fun k => s.size - k) 0 (by omega) (x_ent (by first | rfl | (simp only [Tr.get]; simp; done)) (x_ent (by subst hsc; rfl) trivial)) ?_
     rintro k hk
     refine x_len ?_
     refine br (fun hc13 => ?y13) (fun hc13 => ?n13)
     case' y13 =>
      obtain ⟨c, hc⟩ : ∃ c, s[5 + k]? = some c := ⟨_, getElem?_pos s (5 + k) (by omega)⟩
      first | refine x_ch (by first | exact hb0 | exact ix5 hc) ?_ | refine x_chI (by first | exact hb0 | exact ix5 hc) ?_
      refine br (fun hg14 => ?y14) (fun hg14 => ?n14)
      case' y14 =>
       have hc46 : s[5 + k]? = some 46 := by rw [hc, show c = 46 by rw [← UInt8.toNat_inj]; show c.toNat = 46; omega]
       refine br (fun hc15 => ?y15) (fun hc15 => ?n15)
       case' y15 =>
        have hgn : gnTo s (k + 1) = (s.extract 5 (5 + k), s.extract (5 + k + 1) s.size) := by rw [gnTo, if_pos ⟨hc46, hc15⟩]
        first | refine x_bnd ?_ | refine x_bndI ?_
        first | refine x_bnd ?_ | refine x_bndI ?_
        refine x_str ?_ (h1 := by (first | omega | (show (5 : Nat) ≤ _; omega))) (h2 := by (first | omega | (show (5 : Nat) ≤ _; omega)))
        first | refine x_inc ?_ (h := by (first | omega | (show (5 : Nat) ≤ _; omega))) | refine x_add ?_ (h := by first | exact IntWalk.i64_in _ (by (first | omega | (show (5 : Nat) ≤ _; omega))) | rfl) | refine x_bin rfl rfl ?_
        first | refine x_bnd ?_ | refine x_bndI ?_
        refine x_str ?_ (h1 := by (first | omega | (show (5 : Nat) ≤ _; omega))) (h2 := by (first | omega | (show (5 : Nat) ≤ _; omega)))
        first | refine x_inc ?_ (h := by (first | omega | (show (5 : Nat) ≤ _; omega))) | refine x_add ?_ (h := by first | exact IntWalk.i64_in _ (by (first | omega | (show (5 : Nat) ≤ _; omega))) | rfl) | refine x_bin rfl rfl ?_
        refine x_rnd (k + 1) (by (try dsimp only); omega) (by (try dsimp only); omega) rfl (x_ent (by first | rfl | (simp only [Tr.get]; simp; done)) (x_ent (by simp only [Tr.get]; first | (rw [hgn]; done) | (rw [hgn]; rfl)) trivial)) rfl
       case' n15 =>
        have hgn : gnTo s (k + 1) = gnTo s k := by rw [gnTo, if_neg (fun e => hc15 e.2)]
        first | refine x_inc ?_ (h := by (first | omega | (show (5 : Nat) ≤ _; omega))) | refine x_add ?_ (h := by first | exact IntWalk.i64_in _ (by (first | omega | (show (5 : Nat) ≤ _; omega))) | rfl) | refine x_bin rfl rfl ?_
        refine x_rnd (k + 1) (by (try dsimp only); omega) (by (try dsimp only); omega) rfl (x_ent (by first | rfl | (simp only [Tr.get]; simp; done)) (x_ent (by simp only [Tr.get]; first | (rw [hgn]; done) | (rw [hgn]; rfl)) trivial)) rfl
      case' n14 =>
       have hgn : gnTo s (k + 1) = gnTo s k := by rw [gnTo, if_neg]; rintro ⟨e, _⟩; rw [hc] at e; injection e with e; subst e; exact hg14 rfl
       refine brF ?_
       first | refine x_inc ?_ (h := by (first | omega | (show (5 : Nat) ≤ _; omega))) | refine x_add ?_ (h := by first | exact IntWalk.i64_in _ (by (first | omega | (show (5 : Nat) ≤ _; omega))) | rfl) | refine x_bin rfl rfl ?_
       refine x_rnd (k + 1) (by (try dsimp only); omega) (by (try dsimp only); omega) rfl (x_ent (by first | rfl | (simp only [Tr.get]; simp; done)) (x_ent (by simp only [Tr.get]; first | (rw [hgn]; done) | (rw [hgn]; rfl)) trivial)) rfl
     case' n13 =>
      obtain rfl : k = s.size - 5 := by omega
      have hcd : candR2 s = ⟨sc, (gnTo s (s.size - 5)).1, (gnTo s (s.size - 5)).2⟩ := by unfold candR2; rw [hs0]
      refine x_call T.en_60 (refPlace_any ⟨sc, (gnTo s (s.size - 5)).1, (gnTo s (s.size - 5)).2⟩) ?_
      refine br (fun hg17 => ?y17) (fun hg17 => ?n17)
      case' y17 =>
       have hN := place2_no3 (s := s) (by rw [hcd]; exact hg17)
       refine brT ?_
      case' n17 =>
       have hpb : placeB (candR2 s) = true := by rw [hcd]; exact hg17
       refine x_call T.en_67 (ref13Print_any ⟨sc, (gnTo s (s.size - 5)).1, (gnTo s (s.size - 5)).2⟩) ?_
       refine br (fun hc19 => ?y19) (fun hc19 => ?n19)
       case' y19 =>
        have hN := place2_no4 (s := s) (by rw [hcd]; intro e; apply hc19; rw [if_pos (by rw [← hcd]; exact hpb)]; exact e)
       case' n19 =>
        have hY := placeOf_some hpb (s := s) (by rw [hcd]; have h9 := hc19; rw [if_pos (by rw [← hcd]; exact hpb)] at h9; exact h9)
        rw [hcd] at hY
  case' n3 =>
   refine brF ?_
   have hs6 : 6 ≤ s.size := by omega
   obtain ⟨b0, hb0⟩ : ∃ b, s[0]? = some b := ⟨_, getElem?_pos s 0 (by omega)⟩
   first | refine x_bnd ?_ | refine x_bndI ?_
   refine x_str ?_ (h1 := by (first | omega | (show (5 : Nat) ≤ _; omega))) (h2 := by (first | omega | (show (5 : Nat) ≤ _; omega)))
   first | refine x_ch (by first | exact hb0 | exact ix5 hc) ?_ | refine x_chI (by first | exact hb0 | exact ix5 hc) ?_
   refine br (fun hc21 => ?y21) (fun hc21 => ?n21)
   case' y21 =>
    have hb1 : b0 = 108 := by rw [← UInt8.toNat_inj]; show b0.toNat = 108; omega
    obtain ⟨sc, hsc, hs0⟩ : ∃ sc : Int, sc = 1 ∧ (if s[0]? = some 108 then (1 : Int) else 0) = sc := ⟨1, rfl, by rw [hb0, hb1]; rfl⟩
    refine xloopR (fb := []) T.ok (Nat.le_of_ble_eq_true rfl) [0, 2] (fun (k : Nat) => [(5, .c (.d (.sc (.int .i64 ((5 + k : Nat) : Int))))), (4, .box [.sc (.int .i64 sc), .sc (.string (gnTo s k).1), .sc (.string (gnTo s k).2)])]) (fun k => 5 + k ≤ s.size) (fun k => s.size - k) 0 (by omega) (x_ent (by first | rfl | (simp only [Tr.get]; simp; done)) (x_ent (by subst hsc; rfl) trivial)) ?_
    rintro k hk
    refine x_len ?_
    refine br (fun hc22 => ?y22) (fun hc22 => ?n22)
    case' y22 =>
     obtain ⟨c, hc⟩ : ∃ c, s[5 + k]? = some c := ⟨_, getElem?_pos s (5 + k) (by omega)⟩
     first | refine x_ch (by first | exact hb0 | exact ix5 hc) ?_ | refine x_chI (by first | exact hb0 | exact ix5 hc) ?_
     refine br (fun hg23 => ?y23) (fun hg23 => ?n23)
     case' y23 =>
      have hc46 : s[5 + k]? = some 46 := by rw [hc, show c = 46 by rw [← UInt8.toNat_inj]; show c.toNat = 46; omega]
      refine br (fun hc24 => ?y24) (fun hc24 => ?n24)
      case' y24 =>
       have hgn : gnTo s (k + 1) = (s.extract 5 (5 + k), s.extract (5 + k + 1) s.size) := by rw [gnTo, if_pos ⟨hc46, hc24⟩]
       first | refine x_bnd ?_ | refine x_bndI ?_
       first | refine x_bnd ?_ | refine x_bndI ?_
       refine x_str ?_ (h1 := by (first | omega | (show (5 : Nat) ≤ _; omega))) (h2 := by (first | omega | (show (5 : Nat) ≤ _; omega)))
       first | refine x_inc ?_ (h := by (first | omega | (show (5 : Nat) ≤ _; omega))) | refine x_add ?_ (h := by first | exact IntWalk.i64_in _ (by (first | omega | (show (5 : Nat) ≤ _; omega))) | rfl) | refine x_bin rfl rfl ?_
       first | refine x_bnd ?_ | refine x_bndI ?_
       refine x_str ?_ (h1 := by (first | omega | (show (5 : Nat) ≤ _; omega))) (h2 := by (first | omega | (show (5 : Nat) ≤ _; omega)))
       first | refine x_inc ?_ (h := by (first | omega | (show (5 : Nat) ≤ _; omega))) | refine x_add ?_ (h := by first | exact IntWalk.i64_in _ (by (first | omega | (show (5 : Nat) ≤ _; omega))) | rfl) | refine x_bin rfl rfl ?_
       refine x_rnd (k + 1) (by (try dsimp only); omega) (by (try dsimp only); omega) rfl (x_ent (by first | rfl | (simp only [Tr.get]; simp; done)) (x_ent (by simp only [Tr.get]; first | (rw [hgn]; done) | (rw [hgn]; rfl)) trivial)) rfl
      case' n24 =>
       have hgn : gnTo s (k + 1) = gnTo s k := by rw [gnTo, if_neg (fun e => hc24 e.2)]
       first | refine x_inc ?_ (h := by (first | omega | (show (5 : Nat) ≤ _; omega))) | refine x_add ?_ (h := by first | exact IntWalk.i64_in _ (by (first | omega | (show (5 : Nat) ≤ _; omega))) | rfl) | refine x_bin rfl rfl ?_
       refine x_rnd (k + 1) (by (try dsimp only); omega) (by (try dsimp only); omega) rfl (x_ent (by first | rfl | (simp only [Tr.get]; simp; done)) (x_ent (by simp only [Tr.get]; first | (rw [hgn]; done) | (rw [hgn]; rfl)) trivial)) rfl
     case' n23 =>
      have hgn : gnTo s (k + 1) = gnTo s k := by rw [gnTo, if_neg]; rintro ⟨e, _⟩; rw [hc] at e; injection e with e; subst e; exact hg23 rfl
      refine brF ?_
      first | refine x_inc ?_ (h := by (first | omega | (show (5 : Nat) ≤ _; omega))) | refine x_add ?_ (h := by first | exact IntWalk.i64_in _ (by (first | omega | (show (5 : Nat) ≤ _; omega))) | rfl) | refine x_bin rfl rfl ?_
      refine x_rnd (k + 1) (by (try dsimp only); omega) (by (try dsimp only); omega) rfl (x_ent (by first | rfl | (simp only [Tr.get]; simp; done)) (x_ent (by simp only [Tr.get]; first | (rw [hgn]; done) | (rw [hgn]; rfl)) trivial)) rfl
    case' n22 =>
     obtain rfl : k = s.size - 5 := by omega
     have hcd : candR2 s = ⟨sc, (gnTo s (s.size - 5)).1, (gnTo s (s.size - 5)).2⟩ := by unfold candR2; rw [hs0]
     refine x_call T.en_60 (refPlace_any ⟨sc, (gnTo s (s.size - 5)).1, (gnTo s (s.size - 5)).2⟩) ?_
     refine br (fun hg26 => ?y26) (fun hg26 => ?n26)
     case' y26 =>
      have hN := place2_no3 (s := s) (by rw [hcd]; exact hg26)
      refine brT ?_
     case' n26 =>
      have hpb : placeB (candR2 s) = true := by rw [hcd]; exact hg26
      refine x_call T.en_67 (ref13Print_any ⟨sc, (gnTo s (s.size - 5)).1, (gnTo s (s.size - 5)).2⟩) ?_
      refine br (fun hc28 => ?y28) (fun hc28 => ?n28)
      case' y28 =>
       have hN := place2_no4 (s := s) (by rw [hcd]; intro e; apply hc28; rw [if_pos (by rw [← hcd]; exact hpb)]; exact e)
      case' n28 =>
       have hY := placeOf_some hpb (s := s) (by rw [hcd]; have h9 := hc28; rw [if_pos (by rw [← hcd]; exact hpb)] at h9; exact h9)
       rw [hcd] at hY
   case' n21 =>
    have hb1 : ¬ b0 = 108 := by rintro rfl; exact hc21 rfl
    obtain ⟨sc, hsc, hs0⟩ : ∃ sc : Int, sc = 0 ∧ (if s[0]? = some 108 then (1 : Int) else 0) = sc := ⟨0, rfl, by rw [hb0, if_neg (by simpa using hb1)]⟩
    refine xloopR (fb := []) T.ok (Nat.le_of_ble_eq_true rfl) [0, 2] (fun (k : Nat) => [(5, .c (.d (.sc (.int .i64 ((5 + k : Nat) : Int))))), (4, .box [.sc (.int .i64 sc), .sc (.string (gnTo s k).1), .sc (.string (gnTo s k).2)])]) (fun k => 5 + k ≤ s.size) (fun k => s.size - k) 0 (by omega) (x_ent (by first | rfl | (simp only [Tr.get]; simp; done)) (x_ent (by subst hsc; rfl) trivial)) ?_
    rintro k hk
    refine x_len ?_
    refine br (fun hc29 => ?y29) (fun hc29 => ?n29)
    case' y29 =>
     obtain ⟨c, hc⟩ : ∃ c, s[5 + k]? = some c := ⟨_, getElem?_pos s (5 + k) (by omega)⟩
     first | refine x_ch (by first | exact hb0 | exact ix5 hc) ?_ | refine x_chI (by first | exact hb0 | exact ix5 hc) ?_
     refine br (fun hg30 => ?y30) (fun hg30 => ?n30)
     case' y30 =>
      have hc46 : s[5 + k]? = some 46 := by rw [hc, show c = 46 by rw [← UInt8.toNat_inj]; show c.toNat = 46; omega]
      refine br (fun hc31 => ?y31) (fun hc31 => ?n31)
      case' y31 =>
       have hgn : gnTo s (k + 1) = (s.extract 5 (5 + k), s.extract (5 + k + 1) s.size) := by rw [gnTo, if_pos ⟨hc46, hc31⟩]
       first | refine x_bnd ?_ | refine x_bndI ?_
       first | refine x_bnd ?_ | refine x_bndI ?_
       refine x_str ?_ (h1 := by (first | omega | (show (5 : Nat) ≤ _; omega))) (h2 := by (first | omega | (show (5 : Nat) ≤ _; omega)))
       first | refine x_inc ?_ (h := by (first | omega | (show (5 : Nat) ≤ _; omega))) | refine x_add ?_ (h := by first | exact IntWalk.i64_in _ (by (first | omega | (show (5 : Nat) ≤ _; omega))) | rfl) | refine x_bin rfl rfl ?_
       first | refine x_bnd ?_ | refine x_bndI ?_
       refine x_str ?_ (h1 := by (first | omega | (show (5 : Nat) ≤ _; omega))) (h2 := by (first | omega | (show (5 : Nat) ≤ _; omega)))
       first | refine x_inc ?_ (h := by (first | omega | (show (5 : Nat) ≤ _; omega))) | refine x_add ?_ (h := by first | exact IntWalk.i64_in _ (by (first | omega | (show (5 : Nat) ≤ _; omega))) | rfl) | refine x_bin rfl rfl ?_
       refine x_rnd (k + 1) (by (try dsimp only); omega) (by (try dsimp only); omega) rfl (x_ent (by first | rfl | (simp only [Tr.get]; simp; done)) (x_ent (by simp only [Tr.get]; first | (rw [hgn]; done) | (rw [hgn]; rfl)) trivial)) rfl
      case' n31 =>
       have hgn : gnTo s (k + 1) = gnTo s k := by rw [gnTo, if_neg (fun e => hc31 e.2)]
       first | refine x_inc ?_ (h := by (first | omega | (show (5 : Nat) ≤ _; omega))) | refine x_add ?_ (h := by first | exact IntWalk.i64_in _ (by (first | omega | (show (5 : Nat) ≤ _; omega))) | rfl) | refine x_bin rfl rfl ?_
       refine x_rnd (k + 1) (by (try dsimp only); omega) (by (try dsimp only); omega) rfl (x_ent (by first | rfl | (simp only [Tr.get]; simp; done)) (x_ent (by simp only [Tr.get]; first | (rw [hgn]; done) | (rw [hgn]; rfl)) trivial)) rfl
     case' n30 =>
      have hgn : gnTo s (k + 1) = gnTo s k := by rw [gnTo, if_neg]; rintro ⟨e, _⟩; rw [hc] at e; injection e with e; subst e; exact hg30 rfl
      refine brF ?_
      first | refine x_inc ?_ (h := by (first | omega | (show (5 : Nat) ≤ _; omega))) | refine x_add ?_ (h := by first | exact IntWalk.i64_in _ (by (first | omega | (show (5 : Nat) ≤ _; omega))) | rfl) | refine x_bin rfl rfl ?_
      refine x_rnd (k + 1) (by (try dsimp only); omega) (by (try dsimp only); omega) rfl (x_ent (by first | rfl | (simp only [Tr.get]; simp; done)) (x_ent (by simp only [Tr.get]; first | (rw [hgn]; done) | (rw [hgn]; rfl)) trivial)) rfl
    case' n29 =>
     obtain rfl : k = s.size - 5 := by omega
     have hcd : candR2 s = ⟨sc, (gnTo s (s.size - 5)).1, (gnTo s (s.size - 5)).2⟩ := by unfold candR2; rw [hs0]
     refine x_call T.en_60 (refPlace_any ⟨sc, (gnTo s (s.size - 5)).1, (gnTo s (s.size - 5)).2⟩) ?_
     refine br (fun hg33 => ?y33) (fun hg33 => ?n33)
     case' y33 =>
      have hN := place2_no3 (s := s) (by rw [hcd]; exact hg33)
      refine brT ?_
     case' n33 =>
      have hpb : placeB (candR2 s) = true := by rw [hcd]; exact hg33
      refine x_call T.en_67 (ref13Print_any ⟨sc, (gnTo s (s.size - 5)).1, (gnTo s (s.size - 5)).2⟩) ?_
      refine br (fun hc35 => ?y35) (fun hc35 => ?n35)
      case' y35 =>
       have hN := place2_no4 (s := s) (by rw [hcd]; intro e; apply hc35; rw [if_pos (by rw [← hcd]; exact hpb)]; exact e)
      case' n35 =>
       have hY := placeOf_some hpb (s := s) (by rw [hcd]; have h9 := hc35; rw [if_pos (by rw [← hcd]; exact hpb)] at h9; exact h9)
       rw [hcd] at hY
 all_goals (refine x_ret ?_; simp only [fitsL, fits, C.asD, and_true] <;> (first | (rw [hN]; exact ⟨rfl, rfl⟩) | (rw [hY]; exact ⟨rfl, rfl⟩)))
end Go.Vm
end
section
namespace Go.Vm
open Go.RowKit Go.Proofs
set_option maxRecDepth 10000
open Go.Proofs.YtmmffeldlhofiaaGreatDoor Punnet.Name Punnet.Num
theorem wd_size {w : List ByteArray} (hw : ∀ a ∈ w, a.size ≤ 1000000) (i : Nat) : (wd w i).size ≤ 1000000 := by
  by_cases h : i < w.length
  · have e : wd w i = w[i] := by simp [wd, h]
    rw [e]; exact hw _ (List.getElem_mem h)
  · have e : wd w i = noB := by simp [wd, List.getElem?_eq_none (show w.length ≤ i by omega)]
    rw [e]; decide
theorem parseField_any (w : List ByteArray) (hw : ∀ a ∈ w, a.size ≤ 1000000) : Contract Tryz.prog 76 [.row (w.map strD)] [.d (fD (parseF w).1), .d (.sc (.bool ((parseF w).2)))] := by
 refine T.fn [] Tryz.func76 ?_
 refine x_len ?_
 refine br (fun hc1 => ?y1) (fun hc1 => ?n1)
 case' y1 =>
  have hP : parseF w = (noField, false) := by unfold parseF; rw [if_pos (by omega)]
 case' n1 =>
  have hl2 : ¬ w.length < 2 := by omega
  first | refine x_ix (by first | exact wd_ix (i := 0) rfl (by omega) | exact wd_ix (i := 1) rfl (by omega) | exact wd_ix (i := 2) rfl (by omega) | exact wd_ix (i := 3) rfl (by omega) | exact wd_ix (i := 4) rfl (by omega) | exact wd_ix (i := 5) rfl (by omega)) ?_ | refine x_ixI (by first | exact wd_ix (i := 0) rfl (by omega) | exact wd_ix (i := 1) rfl (by omega) | exact wd_ix (i := 2) rfl (by omega) | exact wd_ix (i := 3) rfl (by omega) | exact wd_ix (i := 4) rfl (by omega) | exact wd_ix (i := 5) rfl (by omega)) ?_
  refine x_call T.en_115 (fieldRead_any (wd w 1) (wd_size hw 1)) ?_
  refine br (fun hc2 => ?y2) (fun hc2 => ?n2)
  case' y2 =>
   have hp1 : placeOf (wd w 1) = none := by cases hq : placeOf (wd w 1) with | none => rfl | some r => rw [hq] at hc2; exact absurd rfl hc2
   have hP : parseF w = (noField, false) := by unfold parseF; rw [if_neg hl2, hp1]
  case' n2 =>
   obtain ⟨r, hp1⟩ : ∃ r, placeOf (wd w 1) = some r := by cases hq : placeOf (wd w 1) with | none => rw [hq] at hc2; exact absurd hc2 (by decide) | some r => exact ⟨r, rfl⟩
   rw [hp1]
   first | refine x_ix (by first | exact wd_ix (i := 0) rfl (by omega) | exact wd_ix (i := 1) rfl (by omega) | exact wd_ix (i := 2) rfl (by omega) | exact wd_ix (i := 3) rfl (by omega) | exact wd_ix (i := 4) rfl (by omega) | exact wd_ix (i := 5) rfl (by omega)) ?_ | refine x_ixI (by first | exact wd_ix (i := 0) rfl (by omega) | exact wd_ix (i := 1) rfl (by omega) | exact wd_ix (i := 2) rfl (by omega) | exact wd_ix (i := 3) rfl (by omega) | exact wd_ix (i := 4) rfl (by omega) | exact wd_ix (i := 5) rfl (by omega)) ?_
   refine br (fun hg3 => ?y3) (fun hg3 => ?n3)
   case' y3 =>
    have v0 := hg3
    refine x_len ?_
    refine br (fun hc4 => ?y4) (fun hc4 => ?n4)
    case' y4 =>
     first | refine x_ix (by first | exact wd_ix (i := 0) rfl (by omega) | exact wd_ix (i := 1) rfl (by omega) | exact wd_ix (i := 2) rfl (by omega) | exact wd_ix (i := 3) rfl (by omega) | exact wd_ix (i := 4) rfl (by omega) | exact wd_ix (i := 5) rfl (by omega)) ?_ | refine x_ixI (by first | exact wd_ix (i := 0) rfl (by omega) | exact wd_ix (i := 1) rfl (by omega) | exact wd_ix (i := 2) rfl (by omega) | exact wd_ix (i := 3) rfl (by omega) | exact wd_ix (i := 4) rfl (by omega) | exact wd_ix (i := 5) rfl (by omega)) ?_
     refine x_call T.en_116 (numRead_any (wd w 2) (wd_size hw 2)) ?_
    case' n4 =>
     first | refine x_ix (by first | exact wd_ix (i := 0) rfl (by omega) | exact wd_ix (i := 1) rfl (by omega) | exact wd_ix (i := 2) rfl (by omega) | exact wd_ix (i := 3) rfl (by omega) | exact wd_ix (i := 4) rfl (by omega) | exact wd_ix (i := 5) rfl (by omega)) ?_ | refine x_ixI (by first | exact wd_ix (i := 0) rfl (by omega) | exact wd_ix (i := 1) rfl (by omega) | exact wd_ix (i := 2) rfl (by omega) | exact wd_ix (i := 3) rfl (by omega) | exact wd_ix (i := 4) rfl (by omega) | exact wd_ix (i := 5) rfl (by omega)) ?_
     refine br (fun hg5 => ?y5) (fun hg5 => ?n5)
     case' y5 =>
      exact absurd (v0.symm.trans hg5) (by decide +kernel)
     case' n5 =>
      refine brF ?_
      first | refine x_ix (by first | exact wd_ix (i := 0) rfl (by omega) | exact wd_ix (i := 1) rfl (by omega) | exact wd_ix (i := 2) rfl (by omega) | exact wd_ix (i := 3) rfl (by omega) | exact wd_ix (i := 4) rfl (by omega) | exact wd_ix (i := 5) rfl (by omega)) ?_ | refine x_ixI (by first | exact wd_ix (i := 0) rfl (by omega) | exact wd_ix (i := 1) rfl (by omega) | exact wd_ix (i := 2) rfl (by omega) | exact wd_ix (i := 3) rfl (by omega) | exact wd_ix (i := 4) rfl (by omega) | exact wd_ix (i := 5) rfl (by omega)) ?_
      refine br (fun hg7 => ?y7) (fun hg7 => ?n7)
      case' y7 =>
       exact absurd (v0.symm.trans hg7) (by decide +kernel)
      case' n7 =>
       refine brF ?_
       first | refine x_ix (by first | exact wd_ix (i := 0) rfl (by omega) | exact wd_ix (i := 1) rfl (by omega) | exact wd_ix (i := 2) rfl (by omega) | exact wd_ix (i := 3) rfl (by omega) | exact wd_ix (i := 4) rfl (by omega) | exact wd_ix (i := 5) rfl (by omega)) ?_ | refine x_ixI (by first | exact wd_ix (i := 0) rfl (by omega) | exact wd_ix (i := 1) rfl (by omega) | exact wd_ix (i := 2) rfl (by omega) | exact wd_ix (i := 3) rfl (by omega) | exact wd_ix (i := 4) rfl (by omega) | exact wd_ix (i := 5) rfl (by omega)) ?_
       refine br (fun hg9 => ?y9) (fun hg9 => ?n9)
       case' y9 =>
        exact absurd (v0.symm.trans hg9) (by decide +kernel)
       case' n9 =>
        refine brF ?_
   case' n3 =>
    refine brF ?_
    first | refine x_ix (by first | exact wd_ix (i := 0) rfl (by omega) | exact wd_ix (i := 1) rfl (by omega) | exact wd_ix (i := 2) rfl (by omega) | exact wd_ix (i := 3) rfl (by omega) | exact wd_ix (i := 4) rfl (by omega) | exact wd_ix (i := 5) rfl (by omega)) ?_ | refine x_ixI (by first | exact wd_ix (i := 0) rfl (by omega) | exact wd_ix (i := 1) rfl (by omega) | exact wd_ix (i := 2) rfl (by omega) | exact wd_ix (i := 3) rfl (by omega) | exact wd_ix (i := 4) rfl (by omega) | exact wd_ix (i := 5) rfl (by omega)) ?_
    refine br (fun hg12 => ?y12) (fun hg12 => ?n12)
    case' y12 =>
     have v1 := hg12
     refine x_len ?_
     refine br (fun hc13 => ?y13) (fun hc13 => ?n13)
     case' y13 =>
      first | refine x_ix (by first | exact wd_ix (i := 0) rfl (by omega) | exact wd_ix (i := 1) rfl (by omega) | exact wd_ix (i := 2) rfl (by omega) | exact wd_ix (i := 3) rfl (by omega) | exact wd_ix (i := 4) rfl (by omega) | exact wd_ix (i := 5) rfl (by omega)) ?_ | refine x_ixI (by first | exact wd_ix (i := 0) rfl (by omega) | exact wd_ix (i := 1) rfl (by omega) | exact wd_ix (i := 2) rfl (by omega) | exact wd_ix (i := 3) rfl (by omega) | exact wd_ix (i := 4) rfl (by omega) | exact wd_ix (i := 5) rfl (by omega)) ?_
      refine x_call T.en_117 (unquote_c (wd w 2) (wd_size hw 2)) ?_
     case' n13 =>
      first | refine x_ix (by first | exact wd_ix (i := 0) rfl (by omega) | exact wd_ix (i := 1) rfl (by omega) | exact wd_ix (i := 2) rfl (by omega) | exact wd_ix (i := 3) rfl (by omega) | exact wd_ix (i := 4) rfl (by omega) | exact wd_ix (i := 5) rfl (by omega)) ?_ | refine x_ixI (by first | exact wd_ix (i := 0) rfl (by omega) | exact wd_ix (i := 1) rfl (by omega) | exact wd_ix (i := 2) rfl (by omega) | exact wd_ix (i := 3) rfl (by omega) | exact wd_ix (i := 4) rfl (by omega) | exact wd_ix (i := 5) rfl (by omega)) ?_
      refine br (fun hg14 => ?y14) (fun hg14 => ?n14)
      case' y14 =>
       exact absurd (v1.symm.trans hg14) (by decide +kernel)
      case' n14 =>
       refine brF ?_
       first | refine x_ix (by first | exact wd_ix (i := 0) rfl (by omega) | exact wd_ix (i := 1) rfl (by omega) | exact wd_ix (i := 2) rfl (by omega) | exact wd_ix (i := 3) rfl (by omega) | exact wd_ix (i := 4) rfl (by omega) | exact wd_ix (i := 5) rfl (by omega)) ?_ | refine x_ixI (by first | exact wd_ix (i := 0) rfl (by omega) | exact wd_ix (i := 1) rfl (by omega) | exact wd_ix (i := 2) rfl (by omega) | exact wd_ix (i := 3) rfl (by omega) | exact wd_ix (i := 4) rfl (by omega) | exact wd_ix (i := 5) rfl (by omega)) ?_
       refine br (fun hg16 => ?y16) (fun hg16 => ?n16)
       case' y16 =>
        exact absurd (v1.symm.trans hg16) (by decide +kernel)
       case' n16 =>
        refine brF ?_
    case' n12 =>
     refine brF ?_
     first | refine x_ix (by first | exact wd_ix (i := 0) rfl (by omega) | exact wd_ix (i := 1) rfl (by omega) | exact wd_ix (i := 2) rfl (by omega) | exact wd_ix (i := 3) rfl (by omega) | exact wd_ix (i := 4) rfl (by omega) | exact wd_ix (i := 5) rfl (by omega)) ?_ | refine x_ixI (by first | exact wd_ix (i := 0) rfl (by omega) | exact wd_ix (i := 1) rfl (by omega) | exact wd_ix (i := 2) rfl (by omega) | exact wd_ix (i := 3) rfl (by omega) | exact wd_ix (i := 4) rfl (by omega) | exact wd_ix (i := 5) rfl (by omega)) ?_
     refine br (fun hg19 => ?y19) (fun hg19 => ?n19)
     case' y19 =>
      have v2 := hg19
      refine x_len ?_
      refine br (fun hc20 => ?y20) (fun hc20 => ?n20)
      case' y20 =>
       first | refine x_ix (by first | exact wd_ix (i := 0) rfl (by omega) | exact wd_ix (i := 1) rfl (by omega) | exact wd_ix (i := 2) rfl (by omega) | exact wd_ix (i := 3) rfl (by omega) | exact wd_ix (i := 4) rfl (by omega) | exact wd_ix (i := 5) rfl (by omega)) ?_ | refine x_ixI (by first | exact wd_ix (i := 0) rfl (by omega) | exact wd_ix (i := 1) rfl (by omega) | exact wd_ix (i := 2) rfl (by omega) | exact wd_ix (i := 3) rfl (by omega) | exact wd_ix (i := 4) rfl (by omega) | exact wd_ix (i := 5) rfl (by omega)) ?_
       first | refine x_ix (by first | exact wd_ix (i := 0) rfl (by omega) | exact wd_ix (i := 1) rfl (by omega) | exact wd_ix (i := 2) rfl (by omega) | exact wd_ix (i := 3) rfl (by omega) | exact wd_ix (i := 4) rfl (by omega) | exact wd_ix (i := 5) rfl (by omega)) ?_ | refine x_ixI (by first | exact wd_ix (i := 0) rfl (by omega) | exact wd_ix (i := 1) rfl (by omega) | exact wd_ix (i := 2) rfl (by omega) | exact wd_ix (i := 3) rfl (by omega) | exact wd_ix (i := 4) rfl (by omega) | exact wd_ix (i := 5) rfl (by omega)) ?_
       refine x_call T.en_122 (split1_any 44 (wd w 3) (wd_size hw 3)) ?_
      case' n20 =>
       first | refine x_ix (by first | exact wd_ix (i := 0) rfl (by omega) | exact wd_ix (i := 1) rfl (by omega) | exact wd_ix (i := 2) rfl (by omega) | exact wd_ix (i := 3) rfl (by omega) | exact wd_ix (i := 4) rfl (by omega) | exact wd_ix (i := 5) rfl (by omega)) ?_ | refine x_ixI (by first | exact wd_ix (i := 0) rfl (by omega) | exact wd_ix (i := 1) rfl (by omega) | exact wd_ix (i := 2) rfl (by omega) | exact wd_ix (i := 3) rfl (by omega) | exact wd_ix (i := 4) rfl (by omega) | exact wd_ix (i := 5) rfl (by omega)) ?_
       refine br (fun hg21 => ?y21) (fun hg21 => ?n21)
       case' y21 =>
        exact absurd (v2.symm.trans hg21) (by decide +kernel)
       case' n21 =>
        refine brF ?_
     case' n19 =>
      refine brF ?_
      first | refine x_ix (by first | exact wd_ix (i := 0) rfl (by omega) | exact wd_ix (i := 1) rfl (by omega) | exact wd_ix (i := 2) rfl (by omega) | exact wd_ix (i := 3) rfl (by omega) | exact wd_ix (i := 4) rfl (by omega) | exact wd_ix (i := 5) rfl (by omega)) ?_ | refine x_ixI (by first | exact wd_ix (i := 0) rfl (by omega) | exact wd_ix (i := 1) rfl (by omega) | exact wd_ix (i := 2) rfl (by omega) | exact wd_ix (i := 3) rfl (by omega) | exact wd_ix (i := 4) rfl (by omega) | exact wd_ix (i := 5) rfl (by omega)) ?_
      refine br (fun hg24 => ?y24) (fun hg24 => ?n24)
      case' y24 =>
       have v3 := hg24
       refine x_len ?_
       refine br (fun hc25 => ?y25) (fun hc25 => ?n25)
      case' n24 =>
       refine brF ?_
 all_goals (refine x_ret ?_; simp only [fitsL, fits, C.asD, and_true] <;> (first | (rw [hP]; (first | (constructor <;> rfl) | rfl)) | (unfold parseF; rw [if_neg hl2, hp1]; dsimp only; (repeat (first | rw [if_pos (And.intro (by assumption) (by omega))] | rw [if_neg (fun k => by have := k.1; have := k.2; first | omega | contradiction)])); constructor <;> rfl)))
end Go.Vm
end
section
namespace Go.Vm
open Go.RowKit Go.Proofs
set_option maxRecDepth 10000
open Go.Proofs.YtmmffeldlhofiaaGreatDoor Punnet.Name Punnet.Num
theorem splitC_len {c : UInt8} : ∀ {l w : List UInt8}, w ∈ splitC c l → w.length ≤ l.length
  | [], w, h => by simp [splitC] at h; rw [h]; simp
  | b :: l, w, h => by
    unfold splitC at h
    split at h
    · rcases List.mem_cons.1 h with rfl | h
      · simp
      · have := splitC_len h; simp only [List.length_cons]; omega
    · cases hs : splitC c l with
      | nil => rw [hs] at h; simp at h; rw [h]; simp
      | cons v vs =>
        rw [hs] at h
        have ih : ∀ u ∈ v :: vs, u.length ≤ l.length := fun u hu => splitC_len (c := c) (by rw [hs]; exact hu)
        rcases List.mem_cons.1 h with rfl | h
        · have := ih v (List.mem_cons_self ..); simp only [List.length_cons]; omega
        · have := ih w (List.mem_cons_of_mem _ h); simp only [List.length_cons]; omega
theorem splitC_num {c : UInt8} : ∀ l : List UInt8, (splitC c l).length ≤ l.length + 1
  | [] => by simp [splitC]
  | b :: l => by
    have ih := splitC_num (c := c) l
    unfold splitC
    split
    · simp only [List.length_cons]; omega
    · cases hs : splitC c l with
      | nil => simp
      | cons v vs => rw [hs] at ih; simp only [List.length_cons] at *; omega
theorem splitW_size {c : UInt8} {s w : ByteArray} (h : w ∈ splitW c s) : w.size ≤ s.size := by
  unfold splitW at h
  obtain ⟨l, hl, rfl⟩ := List.mem_map.1 h
  have := splitC_len hl
  rw [← ba_len, mkB_data, ← ba_len s]; exact this
theorem splitW_len {c : UInt8} {s : ByteArray} (h : s.size ≤ 1000000) : (splitW c s).length ≤ 1000001 := by
  unfold splitW
  rw [List.length_map]
  have := splitC_num (c := c) s.data.toList
  rw [ba_len] at this
  omega
theorem cut_flag (c : UInt8) (p : ByteArray) : (cutC c p.data.toList).2.2 = if c ∈ p.data.toList then true else false := by
  unfold cutC; split <;> rfl
def pcs (l : List ByteArray) (k : Nat) : List (ByteArray × ByteArray) := (l.take k).map pairOf
theorem pcs_take {l : List ByteArray} {k : Nat} {p : ByteArray} (hp : l[k]? = some p) : (pcs l (k + 1)).map pairD = (pcs l k).map pairD ++ [pairD (pairOf p)] := by
  unfold pcs
  rw [List.take_add_one, hp]; simp
theorem take_all {l : List ByteArray} {k : Nat} {p : ByteArray} {Q : ByteArray → Prop} (hi : ∀ p ∈ l.take k, Q p) (hp : l[k]? = some p) (h : Q p) : ∀ p ∈ l.take (k + 1), Q p := by
  rw [List.take_add_one, hp]
  intro q hq
  rcases List.mem_append.1 hq with hq | hq
  · exact hi q hq
  · simp at hq; rw [hq]; exact h
theorem skKind_any (v : ByteArray) : Contract Tryz.prog 114 [.sc (.string (v))] [.d (.sc (.int .i64 ((kindOf v).1))), .d (.sc (.int .i64 ((kindOf v).2)))] := by
 refine T.fn [] Tryz.func114 ?_
 refine br (fun hc1 => ?y1) (fun hc1 => ?n1)
 case' n1 =>
  refine br (fun hc2 => ?y2) (fun hc2 => ?n2)
  case' n2 =>
   refine br (fun hc3 => ?y3) (fun hc3 => ?n3)
   case' n3 =>
    refine br (fun hc4 => ?y4) (fun hc4 => ?n4)
    case' n4 =>
     refine br (fun hc5 => ?y5) (fun hc5 => ?n5)
     case' n5 =>
      refine br (fun hc6 => ?y6) (fun hc6 => ?n6)
      case' n6 =>
       refine br (fun hc7 => ?y7) (fun hc7 => ?n7)
       case' n7 =>
        refine br (fun hc8 => ?y8) (fun hc8 => ?n8)
        case' n8 =>
         refine br (fun hc9 => ?y9) (fun hc9 => ?n9)
         case' n9 =>
          refine br (fun hc10 => ?y10) (fun hc10 => ?n10)
 all_goals (refine x_ret ?_; simp only [fitsL, fits, C.asD, and_true] <;> (unfold kindOf; (repeat (first | rw [if_pos (by assumption)] | rw [if_neg (by assumption)])); constructor <;> rfl))
theorem parsePairs_any (s : ByteArray) (hs : s.size ≤ 1000000) : Contract Tryz.prog 118 [.sc (.string (s))] [.d (.row ((parsePs (splitW 44 s)).1.map pairD)), .d (.sc (.bool ((parsePs (splitW 44 s)).2)))] := by
 refine T.fn [] Tryz.func118 ?_
 have hln := splitW_len (c := 44) hs
 refine x_call T.en_122 (split1_any 44 s hs) ?_
 refine x_len ?_
 refine xnil 4 500004 131 rfl (by decide) (by decide +kernel) ?_
 refine xloopR (fb := []) T.ok (Nat.le_of_ble_eq_true rfl) [11, 12] (fun (k : Nat) => [(13, .c (.d (.sc (.int .i64 (k : Nat))))), (4, .c (.own 500004 131 ((pcs (splitW 44 s) k).map pairD)))]) (fun k => k ≤ (splitW 44 s).length ∧ ∀ p ∈ (splitW 44 s).take k, (62 : UInt8) ∈ p.data.toList) (fun k => (splitW 44 s).length - k) 0 ⟨Nat.zero_le _, (by simp)⟩ (x_ent (by first | rfl | (simp only [Tr.get]; simp; done)) (x_ent (by first | rfl | (simp only [Tr.get]; simp; done)) trivial)) ?_
 rintro k ⟨hk, hi⟩
 refine br (fun hc1 => ?y1) (fun hc1 => ?n1)
 case' y1 =>
  obtain ⟨p, hp⟩ := elem_at hc1
  have hkl := lt_len hp
  have hps := Nat.le_trans (splitW_size (List.mem_of_getElem? hp)) hs
  have hcut := cut_flag 62 p
  first | refine x_ix (by exact mapAt hp) ?_ | refine x_ixI (by exact mapAt hp) ?_
  refine x_call T.en_136 (cut1_any 62 p hps) ?_
  refine br (fun hc2 => ?y2) (fun hc2 => ?n2)
  case' y2 =>
   have hcc : ¬ (62 : UInt8) ∈ p.data.toList := by intro q; rw [if_pos q] at hcut; simp_all
   have hP : parsePs (splitW 44 s) = ([], false) := by unfold parsePs; rw [if_neg]; rw [List.all_eq_true]; intro q; exact hcc (of_decide_eq_true (q p (List.mem_of_getElem? hp)))
  case' n2 =>
   have hcc : (62 : UInt8) ∈ p.data.toList := by refine Decidable.byContradiction fun q => ?_; rw [if_neg q] at hcut; simp_all
   first | refine x_app ?_ (by first | exact strsl_wide _ | (intro x hx; rcases List.mem_singleton.1 hx with rfl; rfl)) (h1 := by unfold maxLen; ((try simp only [List.length_map, List.length_append, List.length_cons, List.length_nil, List.length_take, pcs]); omega)) (h2 := by ((try simp only [List.length_map, List.length_append, List.length_cons, List.length_nil, List.length_take, pcs]); omega)) | refine x_appN ?_ (by first | exact strsl_wide _ | (intro x hx; rcases List.mem_singleton.1 hx with rfl; rfl)) (h1 := by unfold maxLen; ((try simp only [List.length_map, List.length_append, List.length_cons, List.length_nil, List.length_take, pcs]); omega)) (h2 := by ((try simp only [List.length_map, List.length_append, List.length_cons, List.length_nil, List.length_take, pcs]); omega))
   first | refine x_inc ?_ (h := by ((try simp only [List.length_map, List.length_append, List.length_cons, List.length_nil, List.length_take, pcs]); omega)) | refine x_add ?_ (h := by first | exact IntWalk.i64_in _ (by ((try simp only [List.length_map, List.length_append, List.length_cons, List.length_nil, List.length_take, pcs]); omega)) | rfl) | refine x_bin rfl rfl ?_
   refine x_rnd (k + 1) ⟨lt_len hp, (take_all hi hp hcc)⟩ (by (try dsimp only); have := lt_len hp; omega) rfl (x_ent (by first | rfl | (simp only [Tr.get]; simp; done)) (x_ent (by simp only [Tr.get]; first | (rw [pcs_take hp]; done) | (rw [pcs_take hp]; rfl)) trivial)) rfl
 case' n1 =>
  have hend : (splitW 44 s).take k = (splitW 44 s) := List.take_of_length_le (past_end hc1)
  have hP : parsePs (splitW 44 s) = ((splitW 44 s).map pairOf, true) := by unfold parsePs; rw [if_pos]; rw [List.all_eq_true]; rw [hend] at hi; exact fun p hp => decide_eq_true (hi p hp)
 all_goals (refine x_ret ?_; simp only [fitsL, fits, C.asD, and_true] <;> (rw [hP]; (try unfold pcs; try rw [hend]); (first | (constructor <;> rfl) | rfl)))
end Go.Vm
end
section
namespace Go.Vm
open Go.RowKit Go.Proofs
set_option maxRecDepth 10000
open Go.Proofs.YtmmffeldlhofiaaGreatDoor Punnet.Name Punnet.Num
theorem words_tl {w : List ByteArray} {n : Nat} : ((w.map strD).take (w.map strD).length).drop n = (w.drop n).map strD := by rw [List.take_length, List.map_drop]
theorem kindOf_count {v : ByteArray} : ((kindOf v).1 = 1 → (kindOf v).2 = 3) ∧ ((kindOf v).1 = 4 → (kindOf v).2 = 2) ∧ ((kindOf v).1 = 5 → (kindOf v).2 = 3) ∧ ((kindOf v).1 = 6 → (kindOf v).2 = 5) ∧ ((kindOf v).1 = 9 → (kindOf v).2 = 5) ∧ ((kindOf v).1 = 7 → (kindOf v).2 = 3) ∧ ((kindOf v).1 = 10 → (kindOf v).2 = 3) ∧ ((kindOf v).1 = 8 → (kindOf v).2 = 6) ∧ (¬ (kindOf v).1 = 0 → ¬ (kindOf v).1 = 2 → ¬ (kindOf v).1 = 3 → 2 ≤ (kindOf v).2) := by
  unfold kindOf
  (repeat' split) <;> simp
theorem parseLens_any (w : List ByteArray) (hwl : w.length ≤ 1000001) (hw : ∀ a ∈ w, a.size ≤ 1000000) : Contract Tryz.prog 66 [.row (w.map strD)] [.d (lD (parseL w).1), .d (.sc (.bool ((parseL w).2)))] := by
 refine T.fn [] Tryz.func66 ?_
 refine xscopeR (fb := []) T.ok (Nat.le_of_ble_eq_true rfl) [0] (fun (x : LensD × Bool) => 0) (fun _ => [2]) (fun (x : LensD × Bool) => [(4, .box (lD x.1).cells), (6, .c (.d (.sc (.bool x.2))))]) (fun (x : LensD × Bool) => parseL w = x) (fun (x : LensD × Bool) => 0) (fun z _ => by rfl) (by repeat (first | exact trivial | refine And.intro (fun _ => rfl) ?_)) (fun z _ => by (repeat (first | exact trivial | refine And.intro (fun _ => rfl) ?_))) ?p1 ?f1
 case' p1 =>
  rintro x hP
 case' f1 =>
  skip
  refine x_len ?_
  refine br (fun hc1 => ?y1) (fun hc1 => ?n1)
  case' y1 =>
   have hP : parseL w = (noLens, false) := by unfold parseL; rw [if_pos (by omega)]
  case' n1 =>
   have hl0 : ¬ w.length = 0 := by omega
   first | refine x_ix (by first | exact wd_ix (i := 0) rfl (by first | omega) | exact wd_ix (i := 1) rfl (by first | omega) | exact wd_ix (i := 2) rfl (by first | omega) | exact wd_ix (i := 3) rfl (by first | omega) | exact wd_ix (i := 4) rfl (by first | omega) | exact wd_ix (i := 5) rfl (by first | omega)) ?_ | refine x_ixI (by first | exact wd_ix (i := 0) rfl (by first | omega) | exact wd_ix (i := 1) rfl (by first | omega) | exact wd_ix (i := 2) rfl (by first | omega) | exact wd_ix (i := 3) rfl (by first | omega) | exact wd_ix (i := 4) rfl (by first | omega) | exact wd_ix (i := 5) rfl (by first | omega)) ?_
   refine x_call T.en_114 (skKind_any _) ?_
   refine br (fun hc2 => ?y2) (fun hc2 => ?n2)
   case' y2 =>
    have hk0 : (kindOf (wd w 0)).1 = 0 := by simpa using hc2
    have hP : parseL w = (⟨(kindOf (wd w 0)).1, noRef, noB, noB, 0, noField, [], []⟩, false) := by unfold parseL; rw [if_neg hl0, if_pos hk0, hk0]; rfl
    refine x_jmp _ hP rfl trivial rfl (x_ent (by first | rfl | (simp only [Tr.get]; done) | (simp only [Tr.get]; simp_all; done)) (x_ent (by first | rfl | (simp only [Tr.get]; done) | (simp only [Tr.get]; simp_all; done)) trivial)) rfl
   case' n2 =>
    have hk0 : ¬ (kindOf (wd w 0)).1 = 0 := by simpa using hc2
    refine br (fun hg3 => ?y3) (fun hg3 => ?n3)
    case' y3 =>
     have hk2 : (kindOf (wd w 0)).1 = 2 := hg3
     have hP : parseL w = (⟨(kindOf (wd w 0)).1, noRef, noB, noB, 0, (parseF (w.drop 1)).1, [], []⟩, (parseF (w.drop 1)).2) := by unfold parseL; (repeat (first | rw [if_pos (by omega)] | rw [if_neg (by omega)] | (rw [hp1]; try dsimp only)))
     refine brT ?_
     first | refine x_bnd ?_ | refine x_bndI ?_
     refine x_row ?_ (by first | exact str1_wide | exact strsl_wide _ | (intro x hx; cases hx)) (h1 := by ((try simp only [List.length_map]); omega)) (h2 := by ((try simp only [List.length_map]); omega)) (hy := by first | exact words_tl | exact rfl | rfl)
     refine x_call T.en_76 (parseField_any (w.drop 1) (fun a ha => hw a (List.mem_of_mem_drop ha))) ?_
     refine x_jmp _ hP rfl trivial rfl (x_ent (by first | rfl | (simp only [Tr.get]; done) | (simp only [Tr.get]; simp_all; done)) (x_ent (by first | rfl | (simp only [Tr.get]; done) | (simp only [Tr.get]; simp_all; done)) trivial)) rfl
    case' n3 =>
     have hk2 : ¬ (kindOf (wd w 0)).1 = 2 := hg3
     refine br (fun hc5 => ?y5) (fun hc5 => ?n5)
     case' y5 =>
      have hk3 : (kindOf (wd w 0)).1 = 3 := hc5
      have hP : parseL w = (⟨(kindOf (wd w 0)).1, noRef, noB, noB, 0, (parseF (w.drop 1)).1, [], []⟩, (parseF (w.drop 1)).2) := by unfold parseL; (repeat (first | rw [if_pos (by omega)] | rw [if_neg (by omega)] | (rw [hp1]; try dsimp only)))
      first | refine x_bnd ?_ | refine x_bndI ?_
      refine x_row ?_ (by first | exact str1_wide | exact strsl_wide _ | (intro x hx; cases hx)) (h1 := by ((try simp only [List.length_map]); omega)) (h2 := by ((try simp only [List.length_map]); omega)) (hy := by first | exact words_tl | exact rfl | rfl)
      refine x_call T.en_76 (parseField_any (w.drop 1) (fun a ha => hw a (List.mem_of_mem_drop ha))) ?_
      refine x_jmp _ hP rfl trivial rfl (x_ent (by first | rfl | (simp only [Tr.get]; done) | (simp only [Tr.get]; simp_all; done)) (x_ent (by first | rfl | (simp only [Tr.get]; done) | (simp only [Tr.get]; simp_all; done)) trivial)) rfl
     case' n5 =>
      have hk3 : ¬ (kindOf (wd w 0)).1 = 3 := hc5
      refine x_len ?_
      refine br (fun hc6 => ?y6) (fun hc6 => ?n6)
      case' y6 =>
       have hlm : (w.length : Int) = (kindOf (wd w 0)).2 := hc6
       have hkc := kindOf_count (v := wd w 0)
       first | refine x_ix (by first | exact wd_ix (i := 0) rfl (by first | omega) | exact wd_ix (i := 1) rfl (by first | omega) | exact wd_ix (i := 2) rfl (by first | omega) | exact wd_ix (i := 3) rfl (by first | omega) | exact wd_ix (i := 4) rfl (by first | omega) | exact wd_ix (i := 5) rfl (by first | omega)) ?_ | refine x_ixI (by first | exact wd_ix (i := 0) rfl (by first | omega) | exact wd_ix (i := 1) rfl (by first | omega) | exact wd_ix (i := 2) rfl (by first | omega) | exact wd_ix (i := 3) rfl (by first | omega) | exact wd_ix (i := 4) rfl (by first | omega) | exact wd_ix (i := 5) rfl (by first | omega)) ?_
       refine x_call T.en_115 (fieldRead_any (wd w 1) (wd_size hw 1)) ?_
       refine br (fun hc7 => ?y7) (fun hc7 => ?n7)
       case' y7 =>
        have hp1 : placeOf (wd w 1) = none := by cases hq : placeOf (wd w 1) with | none => rfl | some r => rw [hq] at hc7; simp at hc7
        rw [hp1]
        have hP : parseL w = (⟨(kindOf (wd w 0)).1, noRef, noB, noB, 0, noField, [], []⟩, false) := by unfold parseL; (repeat (first | rw [if_pos (by omega)] | rw [if_neg (by omega)] | (rw [hp1]; try dsimp only)))
        refine x_jmp _ hP rfl trivial rfl (x_ent (by first | rfl | (simp only [Tr.get]; done) | (simp only [Tr.get]; simp_all; done)) (x_ent (by first | rfl | (simp only [Tr.get]; done) | (simp only [Tr.get]; simp_all; done)) trivial)) rfl
       case' n7 =>
        obtain ⟨r, hp1⟩ : ∃ r, placeOf (wd w 1) = some r := by cases hq : placeOf (wd w 1) with | none => rw [hq] at hc7; simp at hc7 | some r => exact ⟨r, rfl⟩
        rw [hp1]
        refine br (fun hc8 => ?y8) (fun hc8 => ?n8)
        case' y8 =>
         have hP : parseL w = (⟨(kindOf (wd w 0)).1, r, wd w 2, noB, 0, noField, [], []⟩, true) := by unfold parseL; (repeat (first | rw [if_pos (by omega)] | rw [if_neg (by omega)] | (rw [hp1]; try dsimp only)))
         refine brT ?_
         have hP : parseL w = (⟨(kindOf (wd w 0)).1, r, wd w 2, noB, 0, noField, [], []⟩, true) := by unfold parseL; (repeat (first | rw [if_pos (by omega)] | rw [if_neg (by omega)] | (rw [hp1]; try dsimp only)))
         first | refine x_ix (by first | exact wd_ix (i := 0) rfl (by first | omega) | exact wd_ix (i := 1) rfl (by first | omega) | exact wd_ix (i := 2) rfl (by first | omega) | exact wd_ix (i := 3) rfl (by first | omega) | exact wd_ix (i := 4) rfl (by first | omega) | exact wd_ix (i := 5) rfl (by first | omega)) ?_ | refine x_ixI (by first | exact wd_ix (i := 0) rfl (by first | omega) | exact wd_ix (i := 1) rfl (by first | omega) | exact wd_ix (i := 2) rfl (by first | omega) | exact wd_ix (i := 3) rfl (by first | omega) | exact wd_ix (i := 4) rfl (by first | omega) | exact wd_ix (i := 5) rfl (by first | omega)) ?_
         refine x_jmp _ hP rfl trivial rfl (x_ent (by first | rfl | (simp only [Tr.get]; done) | (simp only [Tr.get]; simp_all; done)) (x_ent (by first | rfl | (simp only [Tr.get]; done) | (simp only [Tr.get]; simp_all; done)) trivial)) rfl
        case' n8 =>
         refine br (fun hc10 => ?y10) (fun hc10 => ?n10)
         case' y10 =>
          have hP : parseL w = (⟨(kindOf (wd w 0)).1, r, wd w 2, noB, 0, noField, [], []⟩, true) := by unfold parseL; (repeat (first | rw [if_pos (by omega)] | rw [if_neg (by omega)] | (rw [hp1]; try dsimp only)))
          first | refine x_ix (by first | exact wd_ix (i := 0) rfl (by first | omega) | exact wd_ix (i := 1) rfl (by first | omega) | exact wd_ix (i := 2) rfl (by first | omega) | exact wd_ix (i := 3) rfl (by first | omega) | exact wd_ix (i := 4) rfl (by first | omega) | exact wd_ix (i := 5) rfl (by first | omega)) ?_ | refine x_ixI (by first | exact wd_ix (i := 0) rfl (by first | omega) | exact wd_ix (i := 1) rfl (by first | omega) | exact wd_ix (i := 2) rfl (by first | omega) | exact wd_ix (i := 3) rfl (by first | omega) | exact wd_ix (i := 4) rfl (by first | omega) | exact wd_ix (i := 5) rfl (by first | omega)) ?_
          refine x_jmp _ hP rfl trivial rfl (x_ent (by first | rfl | (simp only [Tr.get]; done) | (simp only [Tr.get]; simp_all; done)) (x_ent (by first | rfl | (simp only [Tr.get]; done) | (simp only [Tr.get]; simp_all; done)) trivial)) rfl
         case' n10 =>
          refine br (fun hc11 => ?y11) (fun hc11 => ?n11)
          case' y11 =>
           have hP : parseL w = (⟨(kindOf (wd w 0)).1, r, wd w 2, wd w 3, (numW (wd w 4)).1, noField, [], []⟩, decide ((numW (wd w 4)).2 = 0)) := by unfold parseL; (repeat (first | rw [if_pos (by omega)] | rw [if_neg (by omega)] | (rw [hp1]; try dsimp only)))
           refine brT ?_
           have hP : parseL w = (⟨(kindOf (wd w 0)).1, r, wd w 2, wd w 3, (numW (wd w 4)).1, noField, [], []⟩, decide ((numW (wd w 4)).2 = 0)) := by unfold parseL; (repeat (first | rw [if_pos (by omega)] | rw [if_neg (by omega)] | (rw [hp1]; try dsimp only)))
           refine And.intro ⟨T.mixed, by decide +kernel⟩ ?_
           first | refine x_ix (by first | exact wd_ix (i := 0) rfl (by first | omega) | exact wd_ix (i := 1) rfl (by first | omega) | exact wd_ix (i := 2) rfl (by first | omega) | exact wd_ix (i := 3) rfl (by first | omega) | exact wd_ix (i := 4) rfl (by first | omega) | exact wd_ix (i := 5) rfl (by first | omega)) ?_ | refine x_ixI (by first | exact wd_ix (i := 0) rfl (by first | omega) | exact wd_ix (i := 1) rfl (by first | omega) | exact wd_ix (i := 2) rfl (by first | omega) | exact wd_ix (i := 3) rfl (by first | omega) | exact wd_ix (i := 4) rfl (by first | omega) | exact wd_ix (i := 5) rfl (by first | omega)) ?_
           first | refine x_ix (by first | exact wd_ix (i := 0) rfl (by first | omega) | exact wd_ix (i := 1) rfl (by first | omega) | exact wd_ix (i := 2) rfl (by first | omega) | exact wd_ix (i := 3) rfl (by first | omega) | exact wd_ix (i := 4) rfl (by first | omega) | exact wd_ix (i := 5) rfl (by first | omega)) ?_ | refine x_ixI (by first | exact wd_ix (i := 0) rfl (by first | omega) | exact wd_ix (i := 1) rfl (by first | omega) | exact wd_ix (i := 2) rfl (by first | omega) | exact wd_ix (i := 3) rfl (by first | omega) | exact wd_ix (i := 4) rfl (by first | omega) | exact wd_ix (i := 5) rfl (by first | omega)) ?_
           first | refine x_ix (by first | exact wd_ix (i := 0) rfl (by first | omega) | exact wd_ix (i := 1) rfl (by first | omega) | exact wd_ix (i := 2) rfl (by first | omega) | exact wd_ix (i := 3) rfl (by first | omega) | exact wd_ix (i := 4) rfl (by first | omega) | exact wd_ix (i := 5) rfl (by first | omega)) ?_ | refine x_ixI (by first | exact wd_ix (i := 0) rfl (by first | omega) | exact wd_ix (i := 1) rfl (by first | omega) | exact wd_ix (i := 2) rfl (by first | omega) | exact wd_ix (i := 3) rfl (by first | omega) | exact wd_ix (i := 4) rfl (by first | omega) | exact wd_ix (i := 5) rfl (by first | omega)) ?_
           refine x_call T.en_116 (numRead_any (wd w 4) (wd_size hw 4)) ?_
           refine x_jmp _ hP rfl trivial rfl (x_ent (by first | rfl | (simp only [Tr.get]; done) | (simp only [Tr.get]; simp_all; done)) (x_ent (by first | rfl | (simp only [Tr.get]; done) | (simp only [Tr.get]; simp_all; done)) trivial)) rfl
          case' n11 =>
           refine br (fun hc13 => ?y13) (fun hc13 => ?n13)
           case' y13 =>
            have hP : parseL w = (⟨(kindOf (wd w 0)).1, r, wd w 2, wd w 3, (numW (wd w 4)).1, noField, [], []⟩, decide ((numW (wd w 4)).2 = 0)) := by unfold parseL; (repeat (first | rw [if_pos (by omega)] | rw [if_neg (by omega)] | (rw [hp1]; try dsimp only)))
            refine And.intro ⟨T.mixed, by decide +kernel⟩ ?_
            first | refine x_ix (by first | exact wd_ix (i := 0) rfl (by first | omega) | exact wd_ix (i := 1) rfl (by first | omega) | exact wd_ix (i := 2) rfl (by first | omega) | exact wd_ix (i := 3) rfl (by first | omega) | exact wd_ix (i := 4) rfl (by first | omega) | exact wd_ix (i := 5) rfl (by first | omega)) ?_ | refine x_ixI (by first | exact wd_ix (i := 0) rfl (by first | omega) | exact wd_ix (i := 1) rfl (by first | omega) | exact wd_ix (i := 2) rfl (by first | omega) | exact wd_ix (i := 3) rfl (by first | omega) | exact wd_ix (i := 4) rfl (by first | omega) | exact wd_ix (i := 5) rfl (by first | omega)) ?_
            first | refine x_ix (by first | exact wd_ix (i := 0) rfl (by first | omega) | exact wd_ix (i := 1) rfl (by first | omega) | exact wd_ix (i := 2) rfl (by first | omega) | exact wd_ix (i := 3) rfl (by first | omega) | exact wd_ix (i := 4) rfl (by first | omega) | exact wd_ix (i := 5) rfl (by first | omega)) ?_ | refine x_ixI (by first | exact wd_ix (i := 0) rfl (by first | omega) | exact wd_ix (i := 1) rfl (by first | omega) | exact wd_ix (i := 2) rfl (by first | omega) | exact wd_ix (i := 3) rfl (by first | omega) | exact wd_ix (i := 4) rfl (by first | omega) | exact wd_ix (i := 5) rfl (by first | omega)) ?_
            first | refine x_ix (by first | exact wd_ix (i := 0) rfl (by first | omega) | exact wd_ix (i := 1) rfl (by first | omega) | exact wd_ix (i := 2) rfl (by first | omega) | exact wd_ix (i := 3) rfl (by first | omega) | exact wd_ix (i := 4) rfl (by first | omega) | exact wd_ix (i := 5) rfl (by first | omega)) ?_ | refine x_ixI (by first | exact wd_ix (i := 0) rfl (by first | omega) | exact wd_ix (i := 1) rfl (by first | omega) | exact wd_ix (i := 2) rfl (by first | omega) | exact wd_ix (i := 3) rfl (by first | omega) | exact wd_ix (i := 4) rfl (by first | omega) | exact wd_ix (i := 5) rfl (by first | omega)) ?_
            refine x_call T.en_116 (numRead_any (wd w 4) (wd_size hw 4)) ?_
            refine x_jmp _ hP rfl trivial rfl (x_ent (by first | rfl | (simp only [Tr.get]; done) | (simp only [Tr.get]; simp_all; done)) (x_ent (by first | rfl | (simp only [Tr.get]; done) | (simp only [Tr.get]; simp_all; done)) trivial)) rfl
           case' n13 =>
            refine br (fun hc14 => ?y14) (fun hc14 => ?n14)
            case' y14 =>
             have hP : parseL w = (⟨(kindOf (wd w 0)).1, r, noB, (unquoteOf (wd w 2)).1, 0, noField, [], []⟩, decide ((unquoteOf (wd w 2)).2 = 0)) := by unfold parseL; (repeat (first | rw [if_pos (by omega)] | rw [if_neg (by omega)] | (rw [hp1]; try dsimp only)))
             refine brT ?_
             have hP : parseL w = (⟨(kindOf (wd w 0)).1, r, noB, (unquoteOf (wd w 2)).1, 0, noField, [], []⟩, decide ((unquoteOf (wd w 2)).2 = 0)) := by unfold parseL; (repeat (first | rw [if_pos (by omega)] | rw [if_neg (by omega)] | (rw [hp1]; try dsimp only)))
             first | refine x_ix (by first | exact wd_ix (i := 0) rfl (by first | omega) | exact wd_ix (i := 1) rfl (by first | omega) | exact wd_ix (i := 2) rfl (by first | omega) | exact wd_ix (i := 3) rfl (by first | omega) | exact wd_ix (i := 4) rfl (by first | omega) | exact wd_ix (i := 5) rfl (by first | omega)) ?_ | refine x_ixI (by first | exact wd_ix (i := 0) rfl (by first | omega) | exact wd_ix (i := 1) rfl (by first | omega) | exact wd_ix (i := 2) rfl (by first | omega) | exact wd_ix (i := 3) rfl (by first | omega) | exact wd_ix (i := 4) rfl (by first | omega) | exact wd_ix (i := 5) rfl (by first | omega)) ?_
             refine x_call T.en_117 (unquote_c (wd w 2) (wd_size hw 2)) ?_
             refine x_jmp _ hP rfl trivial rfl (x_ent (by first | rfl | (simp only [Tr.get]; done) | (simp only [Tr.get]; simp_all; done)) (x_ent (by first | rfl | (simp only [Tr.get]; done) | (simp only [Tr.get]; simp_all; done)) trivial)) rfl
            case' n14 =>
             refine br (fun hc16 => ?y16) (fun hc16 => ?n16)
             case' y16 =>
              have hP : parseL w = (⟨(kindOf (wd w 0)).1, r, noB, (unquoteOf (wd w 2)).1, 0, noField, [], []⟩, decide ((unquoteOf (wd w 2)).2 = 0)) := by unfold parseL; (repeat (first | rw [if_pos (by omega)] | rw [if_neg (by omega)] | (rw [hp1]; try dsimp only)))
              first | refine x_ix (by first | exact wd_ix (i := 0) rfl (by first | omega) | exact wd_ix (i := 1) rfl (by first | omega) | exact wd_ix (i := 2) rfl (by first | omega) | exact wd_ix (i := 3) rfl (by first | omega) | exact wd_ix (i := 4) rfl (by first | omega) | exact wd_ix (i := 5) rfl (by first | omega)) ?_ | refine x_ixI (by first | exact wd_ix (i := 0) rfl (by first | omega) | exact wd_ix (i := 1) rfl (by first | omega) | exact wd_ix (i := 2) rfl (by first | omega) | exact wd_ix (i := 3) rfl (by first | omega) | exact wd_ix (i := 4) rfl (by first | omega) | exact wd_ix (i := 5) rfl (by first | omega)) ?_
              refine x_call T.en_117 (unquote_c (wd w 2) (wd_size hw 2)) ?_
              refine x_jmp _ hP rfl trivial rfl (x_ent (by first | rfl | (simp only [Tr.get]; done) | (simp only [Tr.get]; simp_all; done)) (x_ent (by first | rfl | (simp only [Tr.get]; done) | (simp only [Tr.get]; simp_all; done)) trivial)) rfl
             case' n16 =>
              refine br (fun hc17 => ?y17) (fun hc17 => ?n17)
              case' y17 =>
               have hP : parseL w = (⟨(kindOf (wd w 0)).1, r, wd w 2, wd w 3, 0, noField, (parsePs (splitW 44 (wd w 4))).1, (parsePs (splitW 44 (wd w 5))).1⟩, (parsePs (splitW 44 (wd w 4))).2 && (parsePs (splitW 44 (wd w 5))).2) := by unfold parseL; (repeat (first | rw [if_pos (by omega)] | rw [if_neg (by omega)] | (rw [hp1]; try dsimp only)))
               refine And.intro ⟨T.mixed, by decide +kernel⟩ ?_
               first | refine x_ix (by first | exact wd_ix (i := 0) rfl (by first | omega) | exact wd_ix (i := 1) rfl (by first | omega) | exact wd_ix (i := 2) rfl (by first | omega) | exact wd_ix (i := 3) rfl (by first | omega) | exact wd_ix (i := 4) rfl (by first | omega) | exact wd_ix (i := 5) rfl (by first | omega)) ?_ | refine x_ixI (by first | exact wd_ix (i := 0) rfl (by first | omega) | exact wd_ix (i := 1) rfl (by first | omega) | exact wd_ix (i := 2) rfl (by first | omega) | exact wd_ix (i := 3) rfl (by first | omega) | exact wd_ix (i := 4) rfl (by first | omega) | exact wd_ix (i := 5) rfl (by first | omega)) ?_
               first | refine x_ix (by first | exact wd_ix (i := 0) rfl (by first | omega) | exact wd_ix (i := 1) rfl (by first | omega) | exact wd_ix (i := 2) rfl (by first | omega) | exact wd_ix (i := 3) rfl (by first | omega) | exact wd_ix (i := 4) rfl (by first | omega) | exact wd_ix (i := 5) rfl (by first | omega)) ?_ | refine x_ixI (by first | exact wd_ix (i := 0) rfl (by first | omega) | exact wd_ix (i := 1) rfl (by first | omega) | exact wd_ix (i := 2) rfl (by first | omega) | exact wd_ix (i := 3) rfl (by first | omega) | exact wd_ix (i := 4) rfl (by first | omega) | exact wd_ix (i := 5) rfl (by first | omega)) ?_
               first | refine x_ix (by first | exact wd_ix (i := 0) rfl (by first | omega) | exact wd_ix (i := 1) rfl (by first | omega) | exact wd_ix (i := 2) rfl (by first | omega) | exact wd_ix (i := 3) rfl (by first | omega) | exact wd_ix (i := 4) rfl (by first | omega) | exact wd_ix (i := 5) rfl (by first | omega)) ?_ | refine x_ixI (by first | exact wd_ix (i := 0) rfl (by first | omega) | exact wd_ix (i := 1) rfl (by first | omega) | exact wd_ix (i := 2) rfl (by first | omega) | exact wd_ix (i := 3) rfl (by first | omega) | exact wd_ix (i := 4) rfl (by first | omega) | exact wd_ix (i := 5) rfl (by first | omega)) ?_
               refine x_call T.en_118 (by first | exact parsePairs_any (wd w 4) (wd_size hw 4) | exact parsePairs_any (wd w 5) (wd_size hw 5)) ?_
               first | refine x_ix (by first | exact wd_ix (i := 0) rfl (by first | omega) | exact wd_ix (i := 1) rfl (by first | omega) | exact wd_ix (i := 2) rfl (by first | omega) | exact wd_ix (i := 3) rfl (by first | omega) | exact wd_ix (i := 4) rfl (by first | omega) | exact wd_ix (i := 5) rfl (by first | omega)) ?_ | refine x_ixI (by first | exact wd_ix (i := 0) rfl (by first | omega) | exact wd_ix (i := 1) rfl (by first | omega) | exact wd_ix (i := 2) rfl (by first | omega) | exact wd_ix (i := 3) rfl (by first | omega) | exact wd_ix (i := 4) rfl (by first | omega) | exact wd_ix (i := 5) rfl (by first | omega)) ?_
               refine x_call T.en_118 (by first | exact parsePairs_any (wd w 4) (wd_size hw 4) | exact parsePairs_any (wd w 5) (wd_size hw 5)) ?_
               refine br (fun hg18 => ?y18) (fun hg18 => ?n18)
               case' y18 =>
                refine x_jmp _ hP rfl trivial rfl (x_ent (by first | rfl | (simp only [Tr.get]; done) | (simp only [Tr.get]; simp_all; done)) (x_ent (by first | rfl | (simp only [Tr.get]; done) | (simp only [Tr.get]; simp_all; done)) trivial)) rfl
               case' n18 =>
                refine x_jmp _ hP rfl trivial rfl (x_ent (by first | rfl | (simp only [Tr.get]; done) | (simp only [Tr.get]; simp_all; done)) (x_ent (by first | rfl | (simp only [Tr.get]; done) | (simp only [Tr.get]; simp_all; done)) trivial)) rfl
              case' n17 =>
               have hP : parseL w = (⟨(kindOf (wd w 0)).1, r, noB, noB, 0, noField, [], []⟩, true) := by unfold parseL; (repeat (first | rw [if_pos (by omega)] | rw [if_neg (by omega)] | (rw [hp1]; try dsimp only)))
               refine x_jmp _ hP rfl trivial rfl (x_ent (by first | rfl | (simp only [Tr.get]; done) | (simp only [Tr.get]; simp_all; done)) (x_ent (by first | rfl | (simp only [Tr.get]; done) | (simp only [Tr.get]; simp_all; done)) trivial)) rfl
      case' n6 =>
       have hlm : ¬ (w.length : Int) = (kindOf (wd w 0)).2 := hc6
       have hP : parseL w = (⟨(kindOf (wd w 0)).1, noRef, noB, noB, 0, noField, [], []⟩, false) := by unfold parseL; (repeat (first | rw [if_pos (by omega)] | rw [if_neg (by omega)] | (rw [hp1]; try dsimp only)))
       refine br (fun hc19 => ?y19) (fun hc19 => ?n19)
       case' y19 =>
        refine x_jmp _ hP rfl trivial rfl (x_ent (by first | rfl | (simp only [Tr.get]; done) | (simp only [Tr.get]; simp_all; done)) (x_ent (by first | rfl | (simp only [Tr.get]; done) | (simp only [Tr.get]; simp_all; done)) trivial)) rfl
       case' n19 =>
        exact absurd hc19 hlm
 all_goals (refine x_ret ?_; simp only [fitsL, fits, C.asD, and_true] <;> (rw [hP]; (first | (constructor <;> rfl) | rfl)))
end Go.Vm
end
section
namespace Go.Vm
open Go.RowKit Go.Proofs
set_option maxRecDepth 10000
open Go.Proofs.YtmmffeldlhofiaaGreatDoor Punnet.Name Punnet.Num
theorem joinC_mem_len {c : UInt8} : ∀ {l : List (List UInt8)} {w : List UInt8}, w ∈ l → w.length ≤ (joinC c l).length
  | [], w, h => by cases h
  | [v], w, h => by rw [List.mem_singleton.1 h]; exact Nat.le_refl _
  | v :: u :: r, w, h => by
    rw [joinC, List.length_append, List.length_cons]
    rcases List.mem_cons.1 h with rfl | h
    · omega
    · have := joinC_mem_len (c := c) h; omega
theorem joinC_num {c : UInt8} : ∀ {l : List (List UInt8)}, l.length ≤ (joinC c l).length + 1
  | [] => by simp
  | [v] => by simp
  | v :: u :: r => by
    have := joinC_num (c := c) (l := u :: r)
    rw [joinC, List.length_append, List.length_cons (a := v), List.length_cons (a := c)]
    omega
theorem split_size {s w : ByteArray} (h : w ∈ splitB s 0) : w.size ≤ s.size := by
  have e := congrArg (fun x : ByteArray => x.data.toList) (join_words s)
  simp only [lineT, joinW_data] at e
  rw [← ba_len, ← ba_len s, ← e]
  exact joinC_mem_len (List.mem_map.2 ⟨w, h, rfl⟩)
theorem split_num {s : ByteArray} : (splitB s 0).length ≤ s.size + 1 := by
  have e := congrArg (fun x : ByteArray => x.data.toList) (join_words s)
  simp only [lineT, joinW_data] at e
  rw [← ba_len s, ← e]
  have := joinC_num (c := 32) (l := (splitB s 0).map (·.data.toList))
  rwa [List.length_map] at this
theorem splitW_few {c : UInt8} {s : ByteArray} {n : Nat} (h : s.size ≤ n) : (splitW c s).length ≤ n + 1 := by
  unfold splitW
  rw [List.length_map]
  have := splitC_num (c := c) s.data.toList
  rw [ba_len] at this
  omega
theorem wd_few {w : List ByteArray} {n : Nat} (hw : ∀ a ∈ w, a.size ≤ n) (i : Nat) : (wd w i).size ≤ n := by
  by_cases h : i < w.length
  · have e : wd w i = w[i] := by simp [wd, h]
    rw [e]; exact hw _ (List.getElem_mem h)
  · have e : wd w i = noB := by simp [wd, List.getElem?_eq_none (show w.length ≤ i by omega)]
    rw [e]; exact Nat.zero_le _
theorem parseField_ok {w : List ByteArray} (hw : ∀ a ∈ w, a.size ≤ 900000) : (parseF w).1.cases.length ≤ 1000000 := by
  unfold parseF
  split
  · exact Nat.zero_le _
  split
  · exact Nat.zero_le _
  split
  · exact Nat.zero_le _
  split
  · exact Nat.zero_le _
  split
  · exact Nat.le_trans (splitW_few (wd_few hw 3)) (by decide)
  split
  · exact Nat.zero_le _
  · exact Nat.zero_le _
theorem parsePs_len (l : List ByteArray) : (parsePs l).1.length ≤ l.length := by
  unfold parsePs; split
  · simp
  · exact Nat.zero_le _
theorem parseLens_ok {w : List ByteArray} (hw : ∀ a ∈ w, a.size ≤ 900) : okX (parseL w).1 := by
  have hf := parseField_ok (w := w.drop 1) fun a ha => Nat.le_trans (hw a (List.mem_of_mem_drop ha)) (by decide)
  have h4 := Nat.le_trans (parsePs_len (splitW 44 (wd w 4))) (splitW_few (wd_few hw 4))
  have h5 := Nat.le_trans (parsePs_len (splitW 44 (wd w 5))) (splitW_few (wd_few hw 5))
  unfold parseL
  repeat' split
  all_goals (refine ⟨?_, ?_, ?_⟩ <;> first | exact Nat.zero_le _ | exact hf | (dsimp only; omega))
theorem parseEdge_ok {w : List ByteArray} (hw : ∀ a ∈ w, a.size ≤ 900) : okX (parseE w).1.lens := by
  have h := parseLens_ok (w := w.drop 2) fun a ha => hw a (List.mem_of_mem_drop ha)
  unfold parseE
  split
  · exact ⟨by decide, by decide, by decide⟩
  split
  · exact h
  · exact ⟨by decide, by decide, by decide⟩
theorem parseEdge_any (w : List ByteArray) (hwl : w.length ≤ 1000001) (hw : ∀ a ∈ w, a.size ≤ 1000000) : Contract Tryz.prog 53 [.row (w.map strD)] [.d (eD (parseE w).1), .d (.sc (.bool ((parseE w).2)))] := by
 refine T.fn [] Tryz.func53 ?_
 refine x_len ?_
 refine br (fun hc1 => ?y1) (fun hc1 => ?n1)
 case' y1 =>
  have hP : parseE w = (noEdge, false) := by unfold parseE; rw [if_pos (by omega)]
 case' n1 =>
  have hl0 : ¬ w.length < 2 := by omega
  first | refine x_ix (by first | exact wd_ix (i := 0) rfl (by first | omega) | exact wd_ix (i := 1) rfl (by first | omega) | exact wd_ix (i := 2) rfl (by first | omega) | exact wd_ix (i := 3) rfl (by first | omega) | exact wd_ix (i := 4) rfl (by first | omega) | exact wd_ix (i := 5) rfl (by first | omega)) ?_ | refine x_ixI (by first | exact wd_ix (i := 0) rfl (by first | omega) | exact wd_ix (i := 1) rfl (by first | omega) | exact wd_ix (i := 2) rfl (by first | omega) | exact wd_ix (i := 3) rfl (by first | omega) | exact wd_ix (i := 4) rfl (by first | omega) | exact wd_ix (i := 5) rfl (by first | omega)) ?_
  refine x_call T.en_99 (scriptReadTag_any (wd w 0) (wd_size hw 0)) ?_
  first | refine x_ix (by first | exact wd_ix (i := 0) rfl (by first | omega) | exact wd_ix (i := 1) rfl (by first | omega) | exact wd_ix (i := 2) rfl (by first | omega) | exact wd_ix (i := 3) rfl (by first | omega) | exact wd_ix (i := 4) rfl (by first | omega) | exact wd_ix (i := 5) rfl (by first | omega)) ?_ | refine x_ixI (by first | exact wd_ix (i := 0) rfl (by first | omega) | exact wd_ix (i := 1) rfl (by first | omega) | exact wd_ix (i := 2) rfl (by first | omega) | exact wd_ix (i := 3) rfl (by first | omega) | exact wd_ix (i := 4) rfl (by first | omega) | exact wd_ix (i := 5) rfl (by first | omega)) ?_
  refine x_call T.en_99 (scriptReadTag_any (wd w 1) (wd_size hw 1)) ?_
  refine br (fun hg2 => ?y2) (fun hg2 => ?n2)
  case' y2 =>
   have ht0 : tagOf (wd w 0) = none := by cases hq : tagOf (wd w 0) with | none => rfl | some r => rw [hq] at hg2; simp at hg2
   have hP : parseE w = (noEdge, false) := by unfold parseE; rw [if_neg hl0, ht0]
   refine brT ?_
  case' n2 =>
   obtain ⟨a, ht0⟩ : ∃ r, tagOf (wd w 0) = some r := by cases hq : tagOf (wd w 0) with | none => rw [hq] at hg2; simp at hg2 | some r => exact ⟨r, rfl⟩
   rw [ht0]
   refine br (fun hc4 => ?y4) (fun hc4 => ?n4)
   case' y4 =>
    have ht1 : tagOf (wd w 1) = none := by cases hq : tagOf (wd w 1) with | none => rfl | some r => rw [hq] at hc4; simp at hc4
    have hP : parseE w = (noEdge, false) := by unfold parseE; rw [if_neg hl0, ht0, ht1]
   case' n4 =>
    obtain ⟨b, ht1⟩ : ∃ r, tagOf (wd w 1) = some r := by cases hq : tagOf (wd w 1) with | none => rw [hq] at hc4; simp at hc4 | some r => exact ⟨r, rfl⟩
    rw [ht1]
    have hP : parseE w = (⟨a, b, (parseL (w.drop 2)).1⟩, (parseL (w.drop 2)).2) := by unfold parseE; rw [if_neg hl0, ht0, ht1]
    first | refine x_bnd ?_ | refine x_bndI ?_
    refine x_row ?_ (by first | exact str1_wide | exact strsl_wide _ | (intro x hx; cases hx)) (h1 := by ((try simp only [List.length_map]); omega)) (h2 := by ((try simp only [List.length_map]); omega)) (hy := by first | exact words_tl | exact rfl | rfl)
    refine x_call T.en_66 (parseLens_any (w.drop 2) (by rw [List.length_drop]; omega) (fun a ha => hw a (List.mem_of_mem_drop ha))) ?_
 all_goals (refine x_ret ?_; simp only [fitsL, fits, C.asD, and_true] <;> (rw [hP]; (first | (constructor <;> rfl) | rfl)))
theorem readEdge_any (s : ByteArray) (hs : s.size ≤ 900000) (hws : ∀ a ∈ splitB s 0, a.size ≤ 900) : Contract Tryz.prog 52 [.sc (.string (s)), .fn 53 [], .fn 10 []] [.d (eD ((edgeS s).getD noEdge)), .d (.sc (.int .i64 ((if (edgeS s).isSome = true then 0 else 4))))] := by
 refine T.fn [17, 26] Tryz.func52 ?_
 refine x_call T.en_98 (nameSplit_any s (by omega)) ?_
 refine x_callF (show enters Tryz.prog 53 = true from by kernel_rfl) (parseEdge_any (splitB s 0) (Nat.le_trans split_num (by omega))  (fun a ha => Nat.le_trans (split_size ha) (by omega))) ?_
 refine br (fun hc1 => ?y1) (fun hc1 => ?n1)
 case' y1 =>
  have hP := edgeS_no1 (s := s) (by simpa using hc1)
 case' n1 =>
  refine x_callF (show enters Tryz.prog 10 = true from by kernel_rfl) (skEdge_any (parseE (splitB s 0)).1 (parseEdge_ok hws)) ?_
  refine br (fun hg2 => ?y2) (fun hg2 => ?n2)
  case' y2 =>
   have hr : edgeB (parseE (splitB s 0)).1 = false := by cases hq : edgeB (parseE (splitB s 0)).1 with | false => rfl | true => rw [hq] at hg2; simp at hg2
   have hP := edgeS_no2 hr
   refine brT ?_
  case' n2 =>
   have hr : edgeB (parseE (splitB s 0)).1 = true := by cases hq : edgeB (parseE (splitB s 0)).1 with | true => rfl | false => rw [hq] at hg2; simp at hg2
   refine br (fun hc4 => ?y4) (fun hc4 => ?n4)
   case' y4 =>
    have hP := edgeS_no3 (s := s) (by rw [if_pos hr] at hc4; exact hc4)
   case' n4 =>
    have hP := edgeS_some (s := s) hr (by rw [if_pos hr] at hc4; exact hc4)
 all_goals (refine x_ret ?_; simp only [fitsL, fits, C.asD, and_true] <;> (rw [hP]; (first | (constructor <;> rfl) | rfl)))
theorem skReadEdge_any (s : ByteArray) (hs : s.size ≤ 900000) (hws : ∀ a ∈ splitB s 0, a.size ≤ 900) : Contract Tryz.prog 12 [.sc (.string (s))] [.d (eD ((edgeS s).getD noEdge)), .d (.sc (.int .i64 ((if (edgeS s).isSome = true then 0 else 4))))] := by
 refine T.fn [] Tryz.func12 ?_
 refine x_call T.en_52 (readEdge_any s hs hws) ?_
 all_goals (refine x_ret ?_; simp only [fitsL, fits, C.asD, and_true] <;> (first | exact rfl | (constructor <;> rfl)))
end Go.Vm
end
section
namespace Go.Vm
open Go.RowKit Go.Proofs
set_option maxRecDepth 10000
open Go.Proofs.YtmmffeldlhofiaaGreatDoor Punnet.Name Punnet.Num
theorem rightF_kd {f : FieldD} (h : rightF f = true) : f.kind = 1 ∨ f.kind = 2 ∨ f.kind = 3 ∨ f.kind = 4 := by cases rf_of h <;> simp
theorem ref13Print_ok {r : RefD} (h : placeB r = true) : Contract Tryz.prog 67 [rD r] [.d (.sc (.string (placeT r)))] := by
  have := ref13Print_any r
  rwa [if_pos h] at this
theorem atT_size (r : RefD) : (if placeB r = true then placeT r else ⟨#[63]⟩).size ≤ 40 := by
  by_cases h : placeB r = true
  · rw [if_pos h]; exact placeT_size h
  · rw [if_neg h]; decide
theorem join_zero {a : ByteArray} {l : List ByteArray} : a ++ joinW 44 (l.take 0) = a := by
  rw [show joinW 44 (l.take 0) = noB from rfl]
  exact ba_ext (by rw [ba_app, noB_data, List.append_nil])
theorem joinC_snoc {c : UInt8} {w : List UInt8} : ∀ {l : List (List UInt8)}, l ≠ [] → joinC c (l ++ [w]) = joinC c l ++ c :: w
  | [], h => absurd rfl h
  | [v], _ => rfl
  | v :: u :: r, _ => by
    have ih := joinC_snoc (c := c) (w := w) (l := u :: r) (by simp)
    rw [List.cons_append, joinC_cons _ (by simp), joinC_cons _ (by simp), ih, List.append_assoc]; rfl
theorem jc_next {a : ByteArray} {l : List ByteArray} {k : Nat} {p : ByteArray} (hp : l[k]? = some p) (hk : 0 < k) : S.c (.d (.sc (.string (a ++ joinW 44 (l.take k) ++ ⟨#[44]⟩ ++ p)))) = S.c (.d (.sc (.string (a ++ joinW 44 (l.take (k + 1)))))) := by
  have e : a ++ joinW 44 (l.take k) ++ ⟨#[44]⟩ ++ p = a ++ joinW 44 (l.take (k + 1)) := by
    apply ba_ext
    rw [List.take_add_one, hp]
    simp only [ba_app, joinW_data, Option.toList_some, List.map_append, List.map_cons, List.map_nil]
    rw [joinC_snoc (by have := lt_len hp; intro e; have e2 := congrArg List.length e; rw [List.length_map, List.length_take] at e2; simp only [List.length_nil] at e2; omega)]
    simp
  rw [e]
theorem jc_first {a : ByteArray} {l : List ByteArray} {k : Nat} {p : ByteArray} (hp : l[k]? = some p) (hk : k = 0) : S.c (.d (.sc (.string (a ++ joinW 44 (l.take k) ++ p)))) = S.c (.d (.sc (.string (a ++ joinW 44 (l.take (k + 1)))))) := by
  subst hk
  have e : a ++ joinW 44 (l.take 0) ++ p = a ++ joinW 44 (l.take (0 + 1)) := by
    rw [join_zero, List.take_add_one, hp]
    show _ = a ++ joinW 44 [p]
    rw [show joinW 44 [p] = p from ba_ext (by rw [joinW_data]; rfl)]
  rw [e]
theorem pj_next {l : List (ByteArray × ByteArray)} {k : Nat} {p : ByteArray × ByteArray} (hp : l[k]? = some p) (hk : 0 < k) : S.c (.d (.sc (.string (pairsT (l.take k) ++ ⟨#[44]⟩ ++ p.1 ++ ⟨#[62]⟩ ++ p.2)))) = S.c (.d (.sc (.string (pairsT (l.take (k + 1)))))) := by
  have e : pairsT (l.take k) ++ ⟨#[44]⟩ ++ p.1 ++ ⟨#[62]⟩ ++ p.2 = pairsT (l.take (k + 1)) := by
    apply ba_ext
    unfold pairsT
    rw [List.take_add_one, hp]
    simp only [ba_app, joinW_data, Option.toList_some, List.map_append, List.map_cons, List.map_nil]
    rw [joinC_snoc (by have := lt_len hp; intro e; have e2 := congrArg List.length e; rw [List.length_map, List.length_map, List.length_take] at e2; simp only [List.length_nil] at e2; omega)]
    unfold pairT
    simp
  rw [e]
theorem pj_first {l : List (ByteArray × ByteArray)} {k : Nat} {p : ByteArray × ByteArray} (hp : l[k]? = some p) (hk : k = 0) : S.c (.d (.sc (.string (pairsT (l.take k) ++ p.1 ++ ⟨#[62]⟩ ++ p.2)))) = S.c (.d (.sc (.string (pairsT (l.take (k + 1)))))) := by
  subst hk
  have e : pairsT (l.take 0) ++ p.1 ++ ⟨#[62]⟩ ++ p.2 = pairsT (l.take (0 + 1)) := by
    rw [List.take_add_one, hp]
    show pairsT [] ++ p.1 ++ ⟨#[62]⟩ ++ p.2 = pairsT [p]
    rw [show pairsT [p] = pairT p from ba_ext (by unfold pairsT; rw [joinW_data]; rfl), show pairsT [] = noB from rfl]
    exact ba_ext (by unfold pairT; simp [ba_app, noB_data])
  rw [e]
theorem pairsT_size {l : List (ByteArray × ByteArray)} (hl : l.length ≤ 6) (he : ∀ p ∈ l, p.1.size ≤ 12 ∧ p.2.size ≤ 12) : (pairsT l).size ≤ 200 := by
  have := join_small (c := 44) (n := 30) (m := 6) (l := l.map pairT) (by rw [List.length_map]; omega) (pairT_sizes he)
  unfold pairsT; omega
theorem textF_size {f : FieldD} (h : rightF f = true) : (textF f).size ≤ 900 := by
  have := join_small (c := 32) (n := 200) (m := 4) (fieldW_len f) (fieldW_sizes h)
  unfold textF lineT; omega
theorem textL_size {x : LensD} (h : rightL x = true) : (textL x).size ≤ 1300 := by
  have := join_small (c := 32) (n := 200) (m := 6) (lensW_len x) (lensW_sizes h)
  unfold textL lineT; omega
theorem textE_size {e : EdgeD} (h : edgeB e = true) : (textE e).size ≤ 1700 := by
  have := join_small (c := 32) (n := 200) (m := 8) (l := edgeW e) (by have := lensW_len e.lens; show _ + 1 + 1 ≤ 8; omega) (edgeW_sizes h)
  unfold textE lineT; omega
theorem line_cons {v p : ByteArray} {w : List ByteArray} (hw : w ≠ []) (hv : v = p ++ ⟨#[32]⟩) : v ++ lineT w = lineT (p :: w) := by
  apply ba_ext
  unfold lineT
  rw [hv, ba_app, ba_app, joinW_data, joinW_data, List.map_cons, joinC_cons _ (by simpa using hw)]
  simp
theorem line_edge {a b : ByteArray} {w : List ByteArray} (hw : w ≠ []) : a ++ ⟨#[32]⟩ ++ b ++ ⟨#[32]⟩ ++ lineT w = lineT (a :: b :: w) := by
  apply ba_ext
  unfold lineT
  simp only [ba_app, joinW_data]
  rw [List.map_cons, List.map_cons, joinC_cons _ (by simp), joinC_cons _ (by simpa using hw)]
  simp
theorem rightL_names {x : LensD} (h : rightL x = true) : x.name.size ≤ 40 ∧ x.other.size ≤ 40 := by
  have z := rightL_size h
  exact ⟨Nat.le_trans z.name (by decide), z.other⟩
theorem ref36Field_any (f : FieldD) (h : rightF f = true) : Contract Tryz.prog 26 [fD f] [.d (.sc (.string (textF f)))] := by
 refine T.fn [] Tryz.func26 ?_
 obtain ⟨hp, hdz, hcz, hce, hki, hwo⟩ := rightF_size h
 have hps := placeT_size hp
 have hpz := print_size hwo
 have hqz := quoteB_size f.deft
 have hkd := rightF_kd h
 refine x_call T.en_67 (ref13Print_ok hp) ?_
 refine br (fun hc1 => ?y1) (fun hc1 => ?n1)
 case' y1 =>
  refine x_cat ?_ (h := by ((try simp only [ByteArray.size_append, lit_size, List.size_toArray, List.length_cons, List.length_nil, noB_size]); omega))
  refine x_cat ?_ (h := by ((try simp only [ByteArray.size_append, lit_size, List.size_toArray, List.length_cons, List.length_nil, noB_size]); omega))
  refine x_call T.en_68 (refPrint_c f.worth hwo) ?_
  refine x_cat ?_ (h := by ((try simp only [ByteArray.size_append, lit_size, List.size_toArray, List.length_cons, List.length_nil, noB_size]); omega))
 case' n1 =>
  refine br (fun hc2 => ?y2) (fun hc2 => ?n2)
  case' y2 =>
   refine x_cat ?_ (h := by ((try simp only [ByteArray.size_append, lit_size, List.size_toArray, List.length_cons, List.length_nil, noB_size]); omega))
   refine x_cat ?_ (h := by ((try simp only [ByteArray.size_append, lit_size, List.size_toArray, List.length_cons, List.length_nil, noB_size]); omega))
   refine x_call T.en_69 (refQuote_c f.deft (by omega)) ?_
   refine x_cat ?_ (h := by ((try simp only [ByteArray.size_append, lit_size, List.size_toArray, List.length_cons, List.length_nil, noB_size]); omega))
  case' n2 =>
   refine br (fun hc3 => ?y3) (fun hc3 => ?n3)
   case' y3 =>
    refine x_cat ?_ (h := by ((try simp only [ByteArray.size_append, lit_size, List.size_toArray, List.length_cons, List.length_nil, noB_size]); omega))
   case' n3 =>
    have hk3 : f.kind = 3 := by omega
    refine x_cat ?_ (h := by ((try simp only [ByteArray.size_append, lit_size, List.size_toArray, List.length_cons, List.length_nil, noB_size]); omega))
    refine x_cat ?_ (h := by ((try simp only [ByteArray.size_append, lit_size, List.size_toArray, List.length_cons, List.length_nil, noB_size]); omega))
    refine x_cat ?_ (h := by ((try simp only [ByteArray.size_append, lit_size, List.size_toArray, List.length_cons, List.length_nil, noB_size]); omega))
    refine x_cat ?_ (h := by ((try simp only [ByteArray.size_append, lit_size, List.size_toArray, List.length_cons, List.length_nil, noB_size]); omega))
    refine xloopR (fb := []) T.ok (Nat.le_of_ble_eq_true rfl) [1] (fun (k : Nat) => [(5, .c (.d (.sc (.int .i64 (k : Nat))))), (4, .c (.d (.sc (.string (⟨#[101, 110, 117, 109, 32]⟩ ++ placeT f.at_ ++ ⟨#[32]⟩ ++ f.deft ++ ⟨#[32]⟩ ++ joinW 44 (f.cases.take k))))))]) (fun k => k ≤ f.cases.length ∧ True) (fun k => f.cases.length - k) 0 ⟨Nat.zero_le _, trivial⟩ (x_ent (by first | rfl | (simp only [Tr.get]; simp; done)) (x_ent (by simp only [Tr.get]; rw [join_zero]) trivial)) ?_
    rintro k ⟨hk, hi⟩
    have hjk := join_small (c := 44) (n := 12) (m := 6) (l := f.cases.take k) (by rw [List.length_take]; omega) (fun w hw => hce w (List.mem_of_mem_take hw))
    refine x_len ?_
    refine br (fun hc4 => ?y4) (fun hc4 => ?n4)
    case' y4 =>
     obtain ⟨p, hp0⟩ := elem_at hc4
     have hkl := lt_len hp0
     have hpsz := hce p (List.mem_of_getElem? hp0)
     refine br (fun hc5 => ?y5) (fun hc5 => ?n5)
     case' y5 =>
      refine x_cat ?_ (h := by ((try simp only [ByteArray.size_append, lit_size, List.size_toArray, List.length_cons, List.length_nil, noB_size]); omega))
      first | refine x_ix (by exact mapAt hp0) ?_ | refine x_ixI (by exact mapAt hp0) ?_
      refine x_cat ?_ (h := by ((try simp only [ByteArray.size_append, lit_size, List.size_toArray, List.length_cons, List.length_nil, noB_size]); omega))
      first | refine x_inc ?_ (h := by ((try simp only [ByteArray.size_append, lit_size, List.size_toArray, List.length_cons, List.length_nil, noB_size]); omega)) | refine x_add ?_ (h := by first | exact IntWalk.i64_in _ (by ((try simp only [ByteArray.size_append, lit_size, List.size_toArray, List.length_cons, List.length_nil, noB_size]); omega)) | rfl) | refine x_bin rfl rfl ?_
      refine x_rnd (k + 1) ⟨lt_len hp0, trivial⟩ (by (try dsimp only); have := lt_len hp0; omega) rfl (x_ent (by first | rfl | (simp only [Tr.get]; simp; done)) (x_ent (by simp only [Tr.get]; first | exact jc_next hp0 (by omega) | exact jc_first hp0 (by omega)) trivial)) rfl
     case' n5 =>
      first | refine x_ix (by exact mapAt hp0) ?_ | refine x_ixI (by exact mapAt hp0) ?_
      refine x_cat ?_ (h := by ((try simp only [ByteArray.size_append, lit_size, List.size_toArray, List.length_cons, List.length_nil, noB_size]); omega))
      first | refine x_inc ?_ (h := by ((try simp only [ByteArray.size_append, lit_size, List.size_toArray, List.length_cons, List.length_nil, noB_size]); omega)) | refine x_add ?_ (h := by first | exact IntWalk.i64_in _ (by ((try simp only [ByteArray.size_append, lit_size, List.size_toArray, List.length_cons, List.length_nil, noB_size]); omega)) | rfl) | refine x_bin rfl rfl ?_
      refine x_rnd (k + 1) ⟨lt_len hp0, trivial⟩ (by (try dsimp only); have := lt_len hp0; omega) rfl (x_ent (by first | rfl | (simp only [Tr.get]; simp; done)) (x_ent (by simp only [Tr.get]; first | exact jc_next hp0 (by omega) | exact jc_first hp0 (by omega)) trivial)) rfl
    case' n4 =>
     have hend : f.cases.take k = f.cases := List.take_of_length_le (past_end hc4)
 all_goals (refine x_ret ?_; simp only [fitsL, fits, C.asD, and_true] <;> (first | (refine sct (ba_ext ?_); unfold textF lineT fieldW; (repeat (first | rw [if_pos (by omega)] | rw [if_neg (by omega)])); rw [joinW_data]; simp [ba_app, joinC]; done) | (rw [hend]; refine sct (ba_ext ?_); unfold textF lineT fieldW; (repeat (first | rw [if_pos (by omega)] | rw [if_neg (by omega)])); rw [joinW_data]; simp [ba_app, joinC]; done)))
theorem ref36Pairs_any (l : List (ByteArray × ByteArray)) (hl : l.length ≤ 6) (he : ∀ p ∈ l, p.1.size ≤ 12 ∧ p.2.size ≤ 12) : Contract Tryz.prog 70 [.row (l.map pairD)] [.d (.sc (.string (pairsT l)))] := by
 refine T.fn [] Tryz.func70 ?_
 refine xloopR (fb := []) T.ok (Nat.le_of_ble_eq_true rfl) [0] (fun (k : Nat) => [(4, .c (.d (.sc (.int .i64 (k : Nat))))), (3, .c (.d (.sc (.string (pairsT (l.take k))))))]) (fun k => k ≤ l.length ∧ True) (fun k => l.length - k) 0 ⟨Nat.zero_le _, trivial⟩ (x_ent (by first | rfl | (simp only [Tr.get]; simp; done)) (x_ent (by simp only [Tr.get]; rfl) trivial)) ?_
 rintro k ⟨hk, hi⟩
 have hjk := join_small (c := 44) (n := 30) (m := 6) (l := (l.take k).map pairT) (by rw [List.length_map, List.length_take]; omega) (pairT_sizes fun p hp => he p (List.mem_of_mem_take hp))
 have hjk2 : (pairsT (l.take k)).size ≤ 200 := by unfold pairsT; omega
 refine x_len ?_
 refine br (fun hc1 => ?y1) (fun hc1 => ?n1)
 case' y1 =>
  obtain ⟨p, hp⟩ := elem_at hc1
  have hkl := lt_len hp
  have hpsz := he p (List.mem_of_getElem? hp)
  refine br (fun hc2 => ?y2) (fun hc2 => ?n2)
  case' y2 =>
   refine x_cat ?_ (h := by ((try simp only [ByteArray.size_append, lit_size, List.size_toArray, List.length_cons, List.length_nil, noB_size]); omega))
   refine And.intro ⟨T.mixed, by decide +kernel⟩ ?_
   first | refine x_ix (by exact mapAt hp) ?_ | refine x_ixI (by exact mapAt hp) ?_
   refine x_cat ?_ (h := by ((try simp only [ByteArray.size_append, lit_size, List.size_toArray, List.length_cons, List.length_nil, noB_size]); omega))
   refine x_cat ?_ (h := by ((try simp only [ByteArray.size_append, lit_size, List.size_toArray, List.length_cons, List.length_nil, noB_size]); omega))
   first | refine x_ix (by exact mapAt hp) ?_ | refine x_ixI (by exact mapAt hp) ?_
   refine x_cat ?_ (h := by ((try simp only [ByteArray.size_append, lit_size, List.size_toArray, List.length_cons, List.length_nil, noB_size]); omega))
   first | refine x_inc ?_ (h := by ((try simp only [ByteArray.size_append, lit_size, List.size_toArray, List.length_cons, List.length_nil, noB_size]); omega)) | refine x_add ?_ (h := by first | exact IntWalk.i64_in _ (by ((try simp only [ByteArray.size_append, lit_size, List.size_toArray, List.length_cons, List.length_nil, noB_size]); omega)) | rfl) | refine x_bin rfl rfl ?_
   refine x_rnd (k + 1) ⟨lt_len hp, trivial⟩ (by (try dsimp only); have := lt_len hp; omega) rfl (x_ent (by first | rfl | (simp only [Tr.get]; simp; done)) (x_ent (by simp only [Tr.get]; first | exact pj_next hp (by omega) | exact pj_first hp (by omega)) trivial)) rfl
  case' n2 =>
   refine And.intro ⟨T.mixed, by decide +kernel⟩ ?_
   first | refine x_ix (by exact mapAt hp) ?_ | refine x_ixI (by exact mapAt hp) ?_
   refine x_cat ?_ (h := by ((try simp only [ByteArray.size_append, lit_size, List.size_toArray, List.length_cons, List.length_nil, noB_size]); omega))
   refine x_cat ?_ (h := by ((try simp only [ByteArray.size_append, lit_size, List.size_toArray, List.length_cons, List.length_nil, noB_size]); omega))
   first | refine x_ix (by exact mapAt hp) ?_ | refine x_ixI (by exact mapAt hp) ?_
   refine x_cat ?_ (h := by ((try simp only [ByteArray.size_append, lit_size, List.size_toArray, List.length_cons, List.length_nil, noB_size]); omega))
   first | refine x_inc ?_ (h := by ((try simp only [ByteArray.size_append, lit_size, List.size_toArray, List.length_cons, List.length_nil, noB_size]); omega)) | refine x_add ?_ (h := by first | exact IntWalk.i64_in _ (by ((try simp only [ByteArray.size_append, lit_size, List.size_toArray, List.length_cons, List.length_nil, noB_size]); omega)) | rfl) | refine x_bin rfl rfl ?_
   refine x_rnd (k + 1) ⟨lt_len hp, trivial⟩ (by (try dsimp only); have := lt_len hp; omega) rfl (x_ent (by first | rfl | (simp only [Tr.get]; simp; done)) (x_ent (by simp only [Tr.get]; first | exact pj_next hp (by omega) | exact pj_first hp (by omega)) trivial)) rfl
 case' n1 =>
  have hend : l.take k = l := List.take_of_length_le (past_end hc1)
 all_goals (refine x_ret ?_; simp only [fitsL, fits, C.asD, and_true] <;> (rw [hend]))
theorem ref36Lens_any (x : LensD) (h : rightL x = true) : Contract Tryz.prog 19 [lD x] [.d (.sc (.string (textL x)))] := by
 refine T.fn [] Tryz.func19 ?_
 have z := rightL_size h
 have hkn := rightL_kd h
 have hk2 := lens_kinds h
 have hps := atT_size x.at_
 have hpz := print_size z.factor
 have hqz := quoteB_size x.other
 have hnm := rightL_names h
 refine x_call T.en_67 (ref13Print_any x.at_) ?_
 refine And.intro ⟨T.mixed, by decide +kernel⟩ ?_
 refine x_cat ?_ (h := by ((try simp only [ByteArray.size_append, lit_size, List.size_toArray, List.length_cons, List.length_nil, noB_size]); omega))
 refine x_cat ?_ (h := by ((try simp only [ByteArray.size_append, lit_size, List.size_toArray, List.length_cons, List.length_nil, noB_size]); omega))
 refine x_cat ?_ (h := by ((try simp only [ByteArray.size_append, lit_size, List.size_toArray, List.length_cons, List.length_nil, noB_size]); omega))
 refine x_cat ?_ (h := by ((try simp only [ByteArray.size_append, lit_size, List.size_toArray, List.length_cons, List.length_nil, noB_size]); omega))
 refine x_cat ?_ (h := by ((try simp only [ByteArray.size_append, lit_size, List.size_toArray, List.length_cons, List.length_nil, noB_size]); omega))
 refine x_call T.en_68 (refPrint_c x.factor z.factor) ?_
 refine x_cat ?_ (h := by ((try simp only [ByteArray.size_append, lit_size, List.size_toArray, List.length_cons, List.length_nil, noB_size]); omega))
 refine br (fun hc1 => ?y1) (fun hc1 => ?n1)
 case' y1 =>
  refine x_cat ?_ (h := by ((try simp only [ByteArray.size_append, lit_size, List.size_toArray, List.length_cons, List.length_nil, noB_size]); omega))
  refine x_cat ?_ (h := by ((try simp only [ByteArray.size_append, lit_size, List.size_toArray, List.length_cons, List.length_nil, noB_size]); omega))
  refine x_cat ?_ (h := by ((try simp only [ByteArray.size_append, lit_size, List.size_toArray, List.length_cons, List.length_nil, noB_size]); omega))
 case' n1 =>
  refine br (fun hc2 => ?y2) (fun hc2 => ?n2)
  case' y2 =>
   have hfz := textF_size (z.field.1 (by omega))
   refine x_call T.en_26 (ref36Field_any x.field (z.field.1 (by omega))) ?_
   refine x_cat ?_ (h := by ((try simp only [ByteArray.size_append, lit_size, List.size_toArray, List.length_cons, List.length_nil, noB_size]); omega))
  case' n2 =>
   refine br (fun hc3 => ?y3) (fun hc3 => ?n3)
   case' y3 =>
    have hfz := textF_size (z.field.1 (by omega))
    refine x_call T.en_26 (ref36Field_any x.field (z.field.1 (by omega))) ?_
    refine x_cat ?_ (h := by ((try simp only [ByteArray.size_append, lit_size, List.size_toArray, List.length_cons, List.length_nil, noB_size]); omega))
   case' n3 =>
    refine br (fun hc4 => ?y4) (fun hc4 => ?n4)
    case' y4 =>
     refine x_cat ?_ (h := by ((try simp only [ByteArray.size_append, lit_size, List.size_toArray, List.length_cons, List.length_nil, noB_size]); omega))
    case' n4 =>
     refine br (fun hc5 => ?y5) (fun hc5 => ?n5)
     case' y5 =>
      refine x_cat ?_ (h := by ((try simp only [ByteArray.size_append, lit_size, List.size_toArray, List.length_cons, List.length_nil, noB_size]); omega))
      refine x_cat ?_ (h := by ((try simp only [ByteArray.size_append, lit_size, List.size_toArray, List.length_cons, List.length_nil, noB_size]); omega))
      refine x_cat ?_ (h := by ((try simp only [ByteArray.size_append, lit_size, List.size_toArray, List.length_cons, List.length_nil, noB_size]); omega))
     case' n5 =>
      refine br (fun hc6 => ?y6) (fun hc6 => ?n6)
      case' y6 =>
       refine x_cat ?_ (h := by ((try simp only [ByteArray.size_append, lit_size, List.size_toArray, List.length_cons, List.length_nil, noB_size]); omega))
      case' n6 =>
       refine br (fun hc7 => ?y7) (fun hc7 => ?n7)
       case' y7 =>
        refine x_cat ?_ (h := by ((try simp only [ByteArray.size_append, lit_size, List.size_toArray, List.length_cons, List.length_nil, noB_size]); omega))
        refine x_cat ?_ (h := by ((try simp only [ByteArray.size_append, lit_size, List.size_toArray, List.length_cons, List.length_nil, noB_size]); omega))
        refine x_call T.en_69 (refQuote_c x.other (by omega)) ?_
        refine x_cat ?_ (h := by ((try simp only [ByteArray.size_append, lit_size, List.size_toArray, List.length_cons, List.length_nil, noB_size]); omega))
       case' n7 =>
        refine br (fun hc8 => ?y8) (fun hc8 => ?n8)
        case' y8 =>
         have hp1 := pairsT_size z.forth.1 z.forth.2
         have hp2 := pairsT_size z.back.1 z.back.2
         refine And.intro ⟨T.mixed, by decide +kernel⟩ ?_
         refine x_cat ?_ (h := by ((try simp only [ByteArray.size_append, lit_size, List.size_toArray, List.length_cons, List.length_nil, noB_size]); omega))
         refine x_cat ?_ (h := by ((try simp only [ByteArray.size_append, lit_size, List.size_toArray, List.length_cons, List.length_nil, noB_size]); omega))
         refine x_cat ?_ (h := by ((try simp only [ByteArray.size_append, lit_size, List.size_toArray, List.length_cons, List.length_nil, noB_size]); omega))
         refine x_cat ?_ (h := by ((try simp only [ByteArray.size_append, lit_size, List.size_toArray, List.length_cons, List.length_nil, noB_size]); omega))
         refine x_cat ?_ (h := by ((try simp only [ByteArray.size_append, lit_size, List.size_toArray, List.length_cons, List.length_nil, noB_size]); omega))
         refine x_cat ?_ (h := by ((try simp only [ByteArray.size_append, lit_size, List.size_toArray, List.length_cons, List.length_nil, noB_size]); omega))
         refine x_call T.en_70 (by first | exact ref36Pairs_any x.forth z.forth.1 z.forth.2 | exact ref36Pairs_any x.back z.back.1 z.back.2) ?_
         refine x_cat ?_ (h := by ((try simp only [ByteArray.size_append, lit_size, List.size_toArray, List.length_cons, List.length_nil, noB_size]); omega))
         refine x_cat ?_ (h := by ((try simp only [ByteArray.size_append, lit_size, List.size_toArray, List.length_cons, List.length_nil, noB_size]); omega))
         refine x_call T.en_70 (by first | exact ref36Pairs_any x.forth z.forth.1 z.forth.2 | exact ref36Pairs_any x.back z.back.1 z.back.2) ?_
         refine x_cat ?_ (h := by ((try simp only [ByteArray.size_append, lit_size, List.size_toArray, List.length_cons, List.length_nil, noB_size]); omega))
        case' n8 =>
         refine br (fun hc9 => ?y9) (fun hc9 => ?n9)
         case' y9 =>
          refine x_cat ?_ (h := by ((try simp only [ByteArray.size_append, lit_size, List.size_toArray, List.length_cons, List.length_nil, noB_size]); omega))
         case' n9 =>
          refine x_cat ?_ (h := by ((try simp only [ByteArray.size_append, lit_size, List.size_toArray, List.length_cons, List.length_nil, noB_size]); omega))
          refine x_cat ?_ (h := by ((try simp only [ByteArray.size_append, lit_size, List.size_toArray, List.length_cons, List.length_nil, noB_size]); omega))
          refine x_call T.en_69 (refQuote_c x.other (by omega)) ?_
          refine x_cat ?_ (h := by ((try simp only [ByteArray.size_append, lit_size, List.size_toArray, List.length_cons, List.length_nil, noB_size]); omega))
 all_goals (refine x_ret ?_; simp only [fitsL, fits, C.asD, and_true] <;> (first | (refine sct (ba_ext ?_); unfold textL lineT lensW; (try rw [if_pos (hk2 (by omega))]); (repeat (first | rw [if_pos (by omega)] | rw [if_neg (by omega)])); rw [joinW_data]; simp [ba_app, joinC]; done) | (unfold textL lensW; (repeat (first | rw [if_pos (by omega)] | rw [if_neg (by omega)])); exact sct (line_cons (fieldW_ne _) rfl); done)))
theorem ref36Edge_any (e : EdgeD) (h : edgeB e = true) : Contract Tryz.prog 13 [eD e] [.d (.sc (.string (textE e)))] := by
 refine T.fn [] Tryz.func13 ?_
 have ht := edgeB_tags h
 have h1 := tagT_size ht.1
 have h2 := tagT_size ht.2.1
 have h3 := textL_size ht.2.2
 refine And.intro ⟨T.mixed, by decide +kernel⟩ ?_
 refine x_call T.en_54 (ref34Tag_any e.id ht.1) ?_
 refine x_cat ?_ (h := by ((try simp only [ByteArray.size_append, lit_size, List.size_toArray, List.length_cons, List.length_nil, noB_size]); omega))
 refine x_call T.en_54 (ref34Tag_any e.parent ht.2.1) ?_
 refine x_cat ?_ (h := by ((try simp only [ByteArray.size_append, lit_size, List.size_toArray, List.length_cons, List.length_nil, noB_size]); omega))
 refine x_cat ?_ (h := by ((try simp only [ByteArray.size_append, lit_size, List.size_toArray, List.length_cons, List.length_nil, noB_size]); omega))
 refine x_call T.en_19 (ref36Lens_any e.lens ht.2.2) ?_
 refine x_cat ?_ (h := by ((try simp only [ByteArray.size_append, lit_size, List.size_toArray, List.length_cons, List.length_nil, noB_size]); omega))
 all_goals (refine x_ret ?_; simp only [fitsL, fits, C.asD, and_true] <;> (exact sct (line_edge (lensW_ne ht.2.2))))
end Go.Vm
end
section
namespace Go.Vm
open Go.RowKit Go.Proofs
set_option maxRecDepth 10000
open Go.Proofs.YtmmffeldlhofiaaGreatDoor Punnet.Name Punnet.Num
def tws (l : List ByteArray) (k : Nat) : List (ByteArray × ByteArray) := (l.take k).map twoR
theorem tws_take {l : List ByteArray} {k : Nat} {p : ByteArray} (hp : l[k]? = some p) : (tws l (k + 1)).map pairD = (tws l k).map pairD ++ [pairD (twoR p)] := by
  unfold tws
  rw [List.take_add_one, hp]; simp
theorem ref36ParseField_any (w : List ByteArray) (hw : ∀ a ∈ w, a.size ≤ 900000) : Contract Tryz.prog 78 [.row (w.map strD)] [.d (fD (parseRF w).1), .d (.sc (.bool ((parseRF w).2)))] := by
 refine T.fn [] Tryz.func78 ?_
 refine x_len ?_
 refine br (fun hc1 => ?y1) (fun hc1 => ?n1)
 case' n1 =>
  first | refine x_ix (by first | exact wd_ix (i := 0) rfl (by omega) | exact wd_ix (i := 1) rfl (by omega) | exact wd_ix (i := 2) rfl (by omega) | exact wd_ix (i := 3) rfl (by omega) | exact wd_ix (i := 4) rfl (by omega) | exact wd_ix (i := 5) rfl (by omega)) ?_ | refine x_ixI (by first | exact wd_ix (i := 0) rfl (by omega) | exact wd_ix (i := 1) rfl (by omega) | exact wd_ix (i := 2) rfl (by omega) | exact wd_ix (i := 3) rfl (by omega) | exact wd_ix (i := 4) rfl (by omega) | exact wd_ix (i := 5) rfl (by omega)) ?_
  refine x_call T.en_102 (ref13Read_any (wd w 1) (Nat.le_trans (wd_few hw 1) (by decide))) ?_
  first | refine x_ix (by first | exact wd_ix (i := 0) rfl (by omega) | exact wd_ix (i := 1) rfl (by omega) | exact wd_ix (i := 2) rfl (by omega) | exact wd_ix (i := 3) rfl (by omega) | exact wd_ix (i := 4) rfl (by omega) | exact wd_ix (i := 5) rfl (by omega)) ?_ | refine x_ixI (by first | exact wd_ix (i := 0) rfl (by omega) | exact wd_ix (i := 1) rfl (by omega) | exact wd_ix (i := 2) rfl (by omega) | exact wd_ix (i := 3) rfl (by omega) | exact wd_ix (i := 4) rfl (by omega) | exact wd_ix (i := 5) rfl (by omega)) ?_
  refine br (fun hc2 => ?y2) (fun hc2 => ?n2)
  case' y2 =>
   refine x_len ?_
   refine br (fun hc3 => ?y3) (fun hc3 => ?n3)
   case' n3 =>
    first | refine x_ix (by first | exact wd_ix (i := 0) rfl (by omega) | exact wd_ix (i := 1) rfl (by omega) | exact wd_ix (i := 2) rfl (by omega) | exact wd_ix (i := 3) rfl (by omega) | exact wd_ix (i := 4) rfl (by omega) | exact wd_ix (i := 5) rfl (by omega)) ?_ | refine x_ixI (by first | exact wd_ix (i := 0) rfl (by omega) | exact wd_ix (i := 1) rfl (by omega) | exact wd_ix (i := 2) rfl (by omega) | exact wd_ix (i := 3) rfl (by omega) | exact wd_ix (i := 4) rfl (by omega) | exact wd_ix (i := 5) rfl (by omega)) ?_
    refine x_call T.en_103 (ref36Number_any (wd w 2) (Nat.le_trans (wd_few hw 2) (by decide))) ?_
    refine And.intro (fun hg4 => ?y4) (fun hg4 => ?n4)
    case' y4 =>
     refine And.intro ⟨T.mixed, by decide +kernel⟩ ?_
     refine And.intro (fun hg5 => ?y5) (fun hg5 => ?n5)
     case' y5 =>
      refine x_call T.en_24 (by first | exact refFieldRight_any ⟨atR w, 1, noB, [], (numW (wd w 2)).1⟩ (Nat.zero_le _) | exact refFieldRight_any ⟨atR w, 2, (quotedR (wd w 2)).1, [], 0⟩ (Nat.zero_le _) | exact refFieldRight_any ⟨atR w, 3, wd w 2, splitW 44 (wd w 3), 0⟩ (Nat.le_trans (splitW_few (wd_few hw 3)) (by decide)) | exact refFieldRight_any ⟨atR w, 4, noB, [], 0⟩ (Nat.zero_le _) | exact refFieldRight_any ⟨atR w, 0, noB, [], 0⟩ (Nat.zero_le _)) ?_
    case' n4 =>
     refine And.intro ⟨T.mixed, by decide +kernel⟩ ?_
     refine brF ?_
  case' n2 =>
   refine br (fun hc7 => ?y7) (fun hc7 => ?n7)
   case' y7 =>
    refine x_len ?_
    refine br (fun hc8 => ?y8) (fun hc8 => ?n8)
    case' n8 =>
     first | refine x_ix (by first | exact wd_ix (i := 0) rfl (by omega) | exact wd_ix (i := 1) rfl (by omega) | exact wd_ix (i := 2) rfl (by omega) | exact wd_ix (i := 3) rfl (by omega) | exact wd_ix (i := 4) rfl (by omega) | exact wd_ix (i := 5) rfl (by omega)) ?_ | refine x_ixI (by first | exact wd_ix (i := 0) rfl (by omega) | exact wd_ix (i := 1) rfl (by omega) | exact wd_ix (i := 2) rfl (by omega) | exact wd_ix (i := 3) rfl (by omega) | exact wd_ix (i := 4) rfl (by omega) | exact wd_ix (i := 5) rfl (by omega)) ?_
     refine x_call T.en_104 (refQuoted_any (wd w 2) (Nat.le_trans (wd_few hw 2) (by decide))) ?_
     refine And.intro (fun hg9 => ?y9) (fun hg9 => ?n9)
     case' y9 =>
      refine And.intro ⟨T.mixed, by decide +kernel⟩ ?_
      refine And.intro (fun hg10 => ?y10) (fun hg10 => ?n10)
      case' y10 =>
       refine x_call T.en_24 (by first | exact refFieldRight_any ⟨atR w, 1, noB, [], (numW (wd w 2)).1⟩ (Nat.zero_le _) | exact refFieldRight_any ⟨atR w, 2, (quotedR (wd w 2)).1, [], 0⟩ (Nat.zero_le _) | exact refFieldRight_any ⟨atR w, 3, wd w 2, splitW 44 (wd w 3), 0⟩ (Nat.le_trans (splitW_few (wd_few hw 3)) (by decide)) | exact refFieldRight_any ⟨atR w, 4, noB, [], 0⟩ (Nat.zero_le _) | exact refFieldRight_any ⟨atR w, 0, noB, [], 0⟩ (Nat.zero_le _)) ?_
     case' n9 =>
      refine And.intro ⟨T.mixed, by decide +kernel⟩ ?_
      refine brF ?_
   case' n7 =>
    refine br (fun hc12 => ?y12) (fun hc12 => ?n12)
    case' y12 =>
     refine x_len ?_
     refine br (fun hc13 => ?y13) (fun hc13 => ?n13)
     case' n13 =>
      first | refine x_ix (by first | exact wd_ix (i := 0) rfl (by omega) | exact wd_ix (i := 1) rfl (by omega) | exact wd_ix (i := 2) rfl (by omega) | exact wd_ix (i := 3) rfl (by omega) | exact wd_ix (i := 4) rfl (by omega) | exact wd_ix (i := 5) rfl (by omega)) ?_ | refine x_ixI (by first | exact wd_ix (i := 0) rfl (by omega) | exact wd_ix (i := 1) rfl (by omega) | exact wd_ix (i := 2) rfl (by omega) | exact wd_ix (i := 3) rfl (by omega) | exact wd_ix (i := 4) rfl (by omega) | exact wd_ix (i := 5) rfl (by omega)) ?_
      first | refine x_ix (by first | exact wd_ix (i := 0) rfl (by omega) | exact wd_ix (i := 1) rfl (by omega) | exact wd_ix (i := 2) rfl (by omega) | exact wd_ix (i := 3) rfl (by omega) | exact wd_ix (i := 4) rfl (by omega) | exact wd_ix (i := 5) rfl (by omega)) ?_ | refine x_ixI (by first | exact wd_ix (i := 0) rfl (by omega) | exact wd_ix (i := 1) rfl (by omega) | exact wd_ix (i := 2) rfl (by omega) | exact wd_ix (i := 3) rfl (by omega) | exact wd_ix (i := 4) rfl (by omega) | exact wd_ix (i := 5) rfl (by omega)) ?_
      refine x_call T.en_123 (refCut_any 44 (wd w 3) (Nat.le_trans (wd_few hw 3) (by decide))) ?_
      refine And.intro ⟨T.mixed, by decide +kernel⟩ ?_
      refine And.intro (fun hg14 => ?y14) (fun hg14 => ?n14)
      case' y14 =>
       refine x_call T.en_24 (by first | exact refFieldRight_any ⟨atR w, 1, noB, [], (numW (wd w 2)).1⟩ (Nat.zero_le _) | exact refFieldRight_any ⟨atR w, 2, (quotedR (wd w 2)).1, [], 0⟩ (Nat.zero_le _) | exact refFieldRight_any ⟨atR w, 3, wd w 2, splitW 44 (wd w 3), 0⟩ (Nat.le_trans (splitW_few (wd_few hw 3)) (by decide)) | exact refFieldRight_any ⟨atR w, 4, noB, [], 0⟩ (Nat.zero_le _) | exact refFieldRight_any ⟨atR w, 0, noB, [], 0⟩ (Nat.zero_le _)) ?_
    case' n12 =>
     refine br (fun hc15 => ?y15) (fun hc15 => ?n15)
     case' y15 =>
      refine And.intro (fun hg16 => ?y16) (fun hg16 => ?n16)
      case' y16 =>
       refine x_len ?_
       refine And.intro ⟨T.mixed, by decide +kernel⟩ ?_
       refine And.intro (fun hg17 => ?y17) (fun hg17 => ?n17)
       case' y17 =>
        have hl9 : w.length = 2 := by have := of_decide_eq_true hg17; omega
        refine x_call T.en_24 (by first | exact refFieldRight_any ⟨atR w, 1, noB, [], (numW (wd w 2)).1⟩ (Nat.zero_le _) | exact refFieldRight_any ⟨atR w, 2, (quotedR (wd w 2)).1, [], 0⟩ (Nat.zero_le _) | exact refFieldRight_any ⟨atR w, 3, wd w 2, splitW 44 (wd w 3), 0⟩ (Nat.le_trans (splitW_few (wd_few hw 3)) (by decide)) | exact refFieldRight_any ⟨atR w, 4, noB, [], 0⟩ (Nat.zero_le _) | exact refFieldRight_any ⟨atR w, 0, noB, [], 0⟩ (Nat.zero_le _)) ?_
       case' n17 =>
        have hl9 : ¬ w.length = 2 := by have := of_decide_eq_false hg17; omega
      case' n16 =>
       refine And.intro ⟨T.mixed, by decide +kernel⟩ ?_
       refine brF ?_
     case' n15 =>
      refine And.intro ⟨T.mixed, by decide +kernel⟩ ?_
      refine And.intro (fun hg19 => ?y19) (fun hg19 => ?n19)
      case' y19 =>
       refine x_call T.en_24 (by first | exact refFieldRight_any ⟨atR w, 1, noB, [], (numW (wd w 2)).1⟩ (Nat.zero_le _) | exact refFieldRight_any ⟨atR w, 2, (quotedR (wd w 2)).1, [], 0⟩ (Nat.zero_le _) | exact refFieldRight_any ⟨atR w, 3, wd w 2, splitW 44 (wd w 3), 0⟩ (Nat.le_trans (splitW_few (wd_few hw 3)) (by decide)) | exact refFieldRight_any ⟨atR w, 4, noB, [], 0⟩ (Nat.zero_le _) | exact refFieldRight_any ⟨atR w, 0, noB, [], 0⟩ (Nat.zero_le _)) ?_
 all_goals (refine x_ret ?_; simp only [fitsL, fits, C.asD, and_true] <;> (unfold parseRF; (repeat (first | rw [if_pos (by omega)] | rw [if_neg (by omega)] | rw [if_pos (by assumption)] | rw [if_neg (by assumption)])); first | (constructor <;> first | rfl | (simp_all; done)) | (simp_all; done)))
theorem ref36Table_any (s : ByteArray) (hs : s.size ≤ 900000) : Contract Tryz.prog 105 [.sc (.string (s))] [.d (.row ((tableR s).1.map pairD)), .d (.sc (.bool ((tableR s).2)))] := by
 refine T.fn [1034] Tryz.func105 ?_
 have hln := splitW_few (c := 44) hs
 refine x_call T.en_123 (by first | exact refCut_any 44 s (by omega) | exact refCut_any 62 p hps) ?_
 refine xloopR (fb := [1034]) T.ok (Nat.le_of_ble_eq_true rfl) [5] (fun (k : Nat) => [(6, .c (.d (.sc (.int .i64 (k : Nat))))), (4, .c (.own 8 131 ((tws (splitW 44 s) k).map pairD)))]) (fun k => k ≤ (splitW 44 s).length ∧ ∀ p ∈ (splitW 44 s).take k, (splitW 62 p).length = 2) (fun k => (splitW 44 s).length - k) 0 ⟨Nat.zero_le _, (by simp)⟩ (x_ent (by first | rfl | (simp only [Tr.get]; simp; done)) (x_ent (by first | rfl | (simp only [Tr.get]; simp; done)) trivial)) ?_
 rintro k ⟨hk, hi⟩
 refine x_len ?_
 refine br (fun hc1 => ?y1) (fun hc1 => ?n1)
 case' y1 =>
  obtain ⟨p, hp⟩ := elem_at hc1
  have hkl := lt_len hp
  have hps := Nat.le_trans (splitW_size (List.mem_of_getElem? hp)) (Nat.le_trans hs (by decide : _ ≤ 1000000))
  first | refine x_ix (by first | exact mapAt hp | exact wd_ix (i := 0) rfl (by omega) | exact wd_ix (i := 1) rfl (by omega)) ?_ | refine x_ixI (by first | exact mapAt hp | exact wd_ix (i := 0) rfl (by omega) | exact wd_ix (i := 1) rfl (by omega)) ?_
  refine x_call T.en_123 (by first | exact refCut_any 44 s (by omega) | exact refCut_any 62 p hps) ?_
  refine x_len ?_
  refine br (fun hc2 => ?y2) (fun hc2 => ?n2)
  case' y2 =>
   have hcc : ¬ (splitW 62 p).length = 2 := by omega
   have hP : tableR s = ([], false) := by unfold tableR; rw [if_neg]; rw [List.all_eq_true]; intro q; exact hcc (of_decide_eq_true (q p (List.mem_of_getElem? hp)))
  case' n2 =>
   have hcc : (splitW 62 p).length = 2 := by omega
   refine And.intro ⟨T.mixed, by decide +kernel⟩ ?_
   first | refine x_ix (by first | exact mapAt hp | exact wd_ix (i := 0) rfl (by omega) | exact wd_ix (i := 1) rfl (by omega)) ?_ | refine x_ixI (by first | exact mapAt hp | exact wd_ix (i := 0) rfl (by omega) | exact wd_ix (i := 1) rfl (by omega)) ?_
   first | refine x_ix (by first | exact mapAt hp | exact wd_ix (i := 0) rfl (by omega) | exact wd_ix (i := 1) rfl (by omega)) ?_ | refine x_ixI (by first | exact mapAt hp | exact wd_ix (i := 0) rfl (by omega) | exact wd_ix (i := 1) rfl (by omega)) ?_
   first | refine x_app ?_ (by first | exact strsl_wide _ | (intro x hx; rcases List.mem_singleton.1 hx with rfl; rfl)) (h1 := by unfold maxLen; ((try simp only [List.length_map, List.length_append, List.length_cons, List.length_nil, List.length_take, tws]); omega)) (h2 := by ((try simp only [List.length_map, List.length_append, List.length_cons, List.length_nil, List.length_take, tws]); omega)) | refine x_appN ?_ (by first | exact strsl_wide _ | (intro x hx; rcases List.mem_singleton.1 hx with rfl; rfl)) (h1 := by unfold maxLen; ((try simp only [List.length_map, List.length_append, List.length_cons, List.length_nil, List.length_take, tws]); omega)) (h2 := by ((try simp only [List.length_map, List.length_append, List.length_cons, List.length_nil, List.length_take, tws]); omega))
   first | refine x_inc ?_ (h := by ((try simp only [List.length_map, List.length_append, List.length_cons, List.length_nil, List.length_take, tws]); omega)) | refine x_add ?_ (h := by first | exact IntWalk.i64_in _ (by ((try simp only [List.length_map, List.length_append, List.length_cons, List.length_nil, List.length_take, tws]); omega)) | rfl) | refine x_bin rfl rfl ?_
   refine x_rnd (k + 1) ⟨lt_len hp, (take_all (Q := fun p => (splitW 62 p).length = 2) hi hp hcc)⟩ (by (try dsimp only); have := lt_len hp; omega) rfl (x_ent (by first | rfl | (simp only [Tr.get]; simp; done)) (x_ent (by simp only [Tr.get]; first | (rw [tws_take hp]; done) | (rw [tws_take hp]; rfl)) trivial)) rfl
 case' n1 =>
  have hend : (splitW 44 s).take k = (splitW 44 s) := List.take_of_length_le (past_end hc1)
  have hP : tableR s = ((splitW 44 s).map twoR, true) := by unfold tableR; rw [if_pos]; rw [List.all_eq_true]; rw [hend] at hi; exact fun p hp => decide_eq_true (hi p hp)
 all_goals (refine x_ret ?_; simp only [fitsL, fits, C.asD, and_true] <;> (rw [hP]; (try unfold tws; try rw [hend]); (first | (constructor <;> rfl) | rfl)))
end Go.Vm
end
