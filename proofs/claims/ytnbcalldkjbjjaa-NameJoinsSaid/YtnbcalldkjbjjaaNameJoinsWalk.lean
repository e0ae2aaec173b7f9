/- The walk of the law NameJoins. -/
import Derived.Test.YtnbcalldkjbjjaaNameSplitsWalk
import Derived.Test.YtnbcalldkjbjjaaFrame
namespace Go.Proofs.Ytnbcalldkjbjjaa
open Go.RowKit Punnet.Name
set_option linter.unusedVariables false

/-- A word that is split as it was. -/
def Wordy (b : ByteArray) : Prop := ∀ (l r : List UInt8) (k : Nat), l.drop k = b.data.toList ++ r → (r = [] ∨ ∃ m, r = 32 :: m) → wordEndOf l k = k + b.size

theorem wordy_quote (t : List UInt8) : Wordy ⟨(quoteL t).toArray⟩ := by
  intro l r k h hr
  have h' : l.drop k = quoteL t ++ r := by simpa using h
  have hq := quotedAt_quote t k h'
  have hd := drop_more h'
  have hlen : (quoteL t).length ≤ l.length - k := by rw [← List.length_drop, h']; simp
  have hpos : 0 < (quoteL t).length := by simp [quoteL]
  unfold wordEndOf
  rw [hq]
  simp only
  rw [if_pos]
  · simp [ByteArray.size]
  · rcases hr with rfl | ⟨m, rfl⟩
    · left
      have := congrArg List.length hd
      rw [List.length_drop] at this
      simp at this; omega
    · right
      rw [List.getElem?_eq_getElem (drop_lt hd), drop_get hd]

theorem takeWhile_all (p : UInt8 → Bool) : ∀ (a r : List UInt8), (∀ c ∈ a, p c = true) → (r = [] ∨ ∃ m c, r = c :: m ∧ p c = false) → ((a ++ r).takeWhile p).length = a.length := by
  intro a
  induction a with
  | nil =>
    intro r _ hr
    rcases hr with rfl | ⟨m, c, rfl, hc⟩
    · rfl
    · simp [hc]
  | cons x a ih =>
    intro r ha hr
    rw [List.cons_append, List.takeWhile_cons, if_pos (ha x (List.mem_cons_self ..))]
    simp [ih r (fun c hc => ha c (List.mem_cons_of_mem _ hc)) hr]

theorem wordy_name {b : ByteArray} (hb : nameOk b = true) : Wordy b := by
  intro l r k h hr
  unfold nameOk at hb
  rw [Bool.and_eq_true, decide_eq_true_iff, List.all_eq_true] at hb
  obtain ⟨⟨h1, h2⟩, h3⟩ := hb
  have hbl : b.data.toList.length = b.size := by simp
  have hall : ∀ c ∈ b.data.toList, c.toNat ≠ 32 ∧ c.toNat ≠ 34 := by
    intro c hc
    obtain ⟨j, hj, rfl⟩ := List.getElem_of_mem hc
    have := h3 j (List.mem_range.2 (by omega))
    rw [List.getElem?_eq_getElem hj] at this
    simp only [Option.getD_some, okAt, Bool.or_eq_true, Bool.and_eq_true, decide_eq_true_iff] at this
    omega
  have hne : b.data.toList ≠ [] := by intro e; rw [e] at hbl; simp at hbl; omega
  obtain ⟨x, m, hx⟩ := List.exists_cons_of_ne_nil hne
  have hd : l.drop k = x :: (m ++ r) := by rw [h, hx]; rfl
  have hq : quotedAt l k = none := by
    unfold quotedAt
    rw [dif_pos (drop_lt hd), if_neg]
    rw [drop_get hd]
    exact (hall x (by rw [hx]; exact List.mem_cons_self ..)).2
  unfold wordEndOf
  rw [hq]
  simp only [blankAt]
  rw [h, takeWhile_all _ _ _ (fun c hc => by simpa using (hall c hc).1), hbl]
  rcases hr with rfl | ⟨m, rfl⟩
  · exact .inl rfl
  · exact .inr ⟨m, 32, rfl, by decide⟩

theorem split_join (s : ByteArray) : ∀ (ws : List ByteArray) (k : Nat), ws ≠ [] → (∀ b ∈ ws, Wordy b) → s.data.toList.drop k = joinL ws → k ≤ s.size → splitB s k = ws := by
  have hlen : s.data.toList.length = s.size := by simp
  intro ws
  induction ws with
  | nil => intro k h; exact absurd rfl h
  | cons a r ih =>
    intro k _ hw hd hk
    have hal : a.data.toList.length = a.size := by simp
    cases r with
    | nil =>
      have hd' : s.data.toList.drop k = a.data.toList ++ [] := by simpa [joinL] using hd
      have he := hw a (List.mem_cons_self ..) _ _ k hd' (.inl rfl)
      have hl := congrArg List.length hd'
      rw [List.length_drop] at hl
      simp at hl
      rw [splitB_last (by omega), he]
      congr 1
      rw [ByteArray.ext_iff, ← Array.toList_inj, Lib.extract_data, hd', List.append_nil, show k + a.size - k = a.size by omega, ← hal, List.take_length]
    | cons b r =>
      rw [joinL_cons a ⟨b, r, rfl⟩] at hd
      have he := hw a (List.mem_cons_self ..) _ _ k hd (.inr ⟨_, rfl⟩)
      have hl := congrArg List.length hd
      rw [List.length_drop] at hl
      simp at hl
      have hd2 := drop_more hd
      have hd3 := drop_more (m := [32]) (by rw [hd2]; rfl)
      rw [hal] at hd3
      rw [splitB_more hk (by omega), he, ih (k + a.size + 1) (by simp) (fun b hb => hw b (List.mem_cons_of_mem _ hb)) hd3 (by omega)]
      congr 1
      rw [ByteArray.ext_iff, ← Array.toList_inj, Lib.extract_data, hd, show k + a.size - k = a.size by omega, ← hal]
      simp

/-- What stands for a text in a line. -/
def wordB (s : ByteArray) : ByteArray := if nameOk s then s else ⟨(quoteL s.data.toList).toArray⟩
theorem wordy_word (s : ByteArray) : Wordy (wordB s) := by
  unfold wordB; split
  · rename_i h; exact wordy_name h
  · exact wordy_quote _
theorem word_size (s : ByteArray) (h : s.size ≤ 200) : (wordB s).size ≤ 602 := by
  unfold wordB; split
  · omega
  · have h := quoteTo_len (s := s) (k := s.size) (Nat.le_refl _)
    have hz : (⟨(quoteL s.data.toList).toArray⟩ : ByteArray).size = (quoteL s.data.toList).length := by simp [ByteArray.size]
    rw [hz, ← quoteTo_all, List.length_append, List.length_singleton]; omega

/-- The words up to a place. -/
def wordsTo (ss : List ByteArray) (k : Nat) : List ByteArray := (ss.take k).map wordB
theorem wordsTo_succ {ss : List ByteArray} {k : Nat} (h : k < ss.length) : wordsTo ss (k + 1) = wordsTo ss k ++ [wordB ss[k]] := by
  unfold wordsTo; rw [List.take_succ_eq_append_getElem h, List.map_append]; rfl
theorem wordsTo_len {ss : List ByteArray} {k : Nat} (h : k ≤ ss.length) : (wordsTo ss k).length = k := by unfold wordsTo; simp; omega

/-- What holds of NameJoins at the head of a round. -/
def NJ (ss : List ByteArray) (w : World) (k : Nat) (v : Value) (q : ByteArray) (w' : World) : Prop :=
  w'.ownsRow w.heap.size 9 1 v k (strsOf (wordsTo ss k)) ∧ Below w.heap.size w w' ∧ q = ⟨(joinL (wordsTo ss k)).toArray⟩ ∧ q.size ≤ k * 603

theorem NJ.next {ss : List ByteArray} {w w1 w2 : World} {k : Nat} {v v' : Value} {q : ByteArray} (h : NJ ss w k v q w1) (hk : k < ss.length) (hz : ss[k].size ≤ 200)
    (ho : w2.ownsRow w.heap.size 9 1 v' (k + 1) (strsOf (wordsTo ss k) ++ [.string (wordB ss[k])])) (hb : Below w.heap.size w w2) :
    (k = 0 → NJ ss w (k + 1) v' (q ++ wordB ss[k]) w2) ∧ (k ≠ 0 → NJ ss w (k + 1) v' (q ++ ⟨#[32]⟩ ++ wordB ss[k]) w2) := by
  obtain ⟨h1, h2, h3, h4⟩ := h
  have hs := word_size _ hz
  refine ⟨fun h0 => ⟨by rw [wordsTo_succ hk, strsOf_snoc]; exact ho, hb, ?_, ?_⟩, fun h0 => ⟨by rw [wordsTo_succ hk, strsOf_snoc]; exact ho, hb, ?_, ?_⟩⟩
  · subst h0
    rw [h3, wordsTo_succ hk]
    show (⟨#[]⟩ : ByteArray) ++ _ = ⟨(wordB ss[0]).data.toList.toArray⟩
    rw [ByteArray.ext_iff, ByteArray.data_append]; simp
  · rw [ByteArray.size_append]; omega
  · rw [h3, wordsTo_succ hk, joinL_snoc _ _ (by intro e; have := congrArg List.length e; rw [wordsTo_len (by omega)] at this; simp at this; omega), ba_snoc _ _ _ rfl]
  · rw [ByteArray.size_append, ByteArray.size_append]; have : (⟨#[32]⟩ : ByteArray).size = 1 := rfl; omega

set_option maxHeartbeats 4000000 in
theorem nameJoins_go (b off l0 c0 : Nat) (ss : List ByteArray) (w : World) (hss : ss.length = l0) (h0 : 0 < l0) (h50 : l0 ≤ 50) (hb : b < w.heap.size) (hc : ∀ j (hj : j < ss.length), w.cell? ⟨b, off + j, none⟩ = some (.string ss[j]) ∧ ss[j].size ≤ maxLen) :
    Calls Try.prog 4 #[.slice (some ⟨b, off, none⟩) l0 c0] w fun e w' => e = .returned (.bool true) ∧ Below w.heap.size w w' := by
  obtain ⟨i0, hi0, hz0, hz1, hz2⟩ := info_parts str_info
  have HC := Lib.hid hc
  have HL := Lib.hid hss
  clear hc hss
  have e0 : ((l0 : Int) == 0) = false := beq_eq_false_iff_ne.2 (by omega)
  have e1 : ¬ (50 : Int) < (l0 : Int) := by omega
  go_enter Try.func4, Try.ntmps4
  go_wp2_with fail
  refine (nameAwake_any _).mono ?_
  rintro e w1 ⟨rfl, hb1⟩
  go_wp2_with fail
  go_loopw [3, 4, 5] (fun v q i wr => ∃ (k : Nat) (qb : ByteArray), k ≤ l0 ∧ i = .int .i64 (k : Int) ∧ q = .string qb ∧ NJ ss w k v qb wr) (fun _ _ i _ => l0 - (intOf i).toNat)
  case atStart => exact ⟨0, ⟨#[]⟩, by omega, rfl, rfl, ⟨rfl, .inr ⟨w1.heap.size, 0, #[], rfl, hb1.size, heap_alloc_new w1 _, Nat.le_refl _, by simp [maxLen], rfl, rfl⟩⟩, hb1.alloc hb1.size _, rfl, by simp [ByteArray.size]⟩
  case round =>
    obtain ⟨k, qb, hk, rfl, rfl, hr⟩ := hrel
    have HR := Lib.hid hr
    have hbw := hr.2.1
    have hqs := hr.2.2.2
    clear hr
    by_cases hlt : k < l0
    · have hlt' : (k : Int) < (l0 : Int) := by omega
      have hks : k < ss.length := by rw [HL.out]; exact hlt
      obtain ⟨c1, c2⟩ := HC.out k hks
      have ck : wr.cell? ⟨b, off + k, none⟩ = some (.string ss[k]) := by rw [hbw.cell hb]; exact c1
      unfold maxLen at c2
      clear c1
      by_cases h200 : 200 < ss[k].size
      · have h200' : (200 : Int) < ss[k].size := by omega
        go_wp2_with fail
        go_ret
        exact ⟨rfl, hbw⟩
      · have h200' : ¬ (200 : Int) < ss[k].size := by omega
        have hwz := word_size ss[k] (by omega)
        have HN := Lib.hid (fun v' w2 => HR.out.next (v' := v') (w2 := w2) hks (by omega))
        have NM := Lib.hid (fun w => refName_any ss[k] w (by omega))
        have QT := Lib.hid (fun w => refQuote_any ss[k] w (by omega))
        have HO := Lib.hid HR.out.1
        have HWB : Hid (wordB ss[k] = if nameOk ss[k] then ss[k] else ⟨(quoteL ss[k].data.toList).toArray⟩) := rfl
        cases hn : nameOk ss[k] with
        | true =>
          rw [hn] at NM
          have hwb : wordB ss[k] = ss[k] := by rw [HWB.out, if_pos hn]
          rw [hwb] at HN hwz
          clear hn hwb HWB QT
          go_wp2_with fail
          refine (NM.out _).mono ?_
          rintro e w2 ⟨rfl, hb2⟩
          have HO2 := Lib.hid (own_later HO.out hb2)
          have hb3 : Below w.heap.size w w2 := hbw.trans (hb2.mono hbw.size)
          clear ck hb2
          by_cases hk0 : k = 0
          · have hk0' : ¬ (0 : Int) < (k : Int) := by omega
            have HK := Lib.hid hk0
            clear hk0
            go_wp2_with (at_builtin; go_must (refine wpList_append_one rfl (.tmp 39) (.tmp 41) _ rfl w.heap.size 9 i0 _ 16 Try.underlying23 hi0 hz0 hz1 hz2 rfl 9 (.string ss[k]) rfl u3 k (strsOf (wordsTo ss k)) rfl HO2.out rfl (by simp only [maxLen]; omega) (by omega) hb3.size ?_; intro v4 w4 ho4 hb4))
            go_roundw
            case rel => exact ⟨k + 1, _, by omega, by go_num, rfl, (HN.out v4 w4 ho4 (hb3.trans hb4)).1 HK.out⟩
            case measure => simp [intOf]; omega
          · have hk0' : (0 : Int) < (k : Int) := by omega
            go_wp2_with (at_builtin; go_must (refine wpList_append_one rfl (.tmp 39) (.tmp 41) _ rfl w.heap.size 9 i0 _ 16 Try.underlying23 hi0 hz0 hz1 hz2 rfl 9 (.string ss[k]) rfl u3 k (strsOf (wordsTo ss k)) rfl HO2.out rfl (by simp only [maxLen]; omega) (by omega) hb3.size ?_; intro v4 w4 ho4 hb4))
            go_roundw
            case rel => exact ⟨k + 1, _, by omega, by go_num, rfl, (HN.out v4 w4 ho4 (hb3.trans hb4)).2 hk0⟩
            case measure => simp [intOf]; omega
        | false =>
          rw [hn] at NM
          have hwb : wordB ss[k] = ⟨(quoteL ss[k].data.toList).toArray⟩ := by rw [HWB.out, if_neg (by rw [hn]; decide)]
          rw [← hwb] at QT
          clear hn hwb HWB
          generalize wordB ss[k] = wb at *
          go_wp2_with fail
          refine (NM.out _).mono ?_
          rintro e w2 ⟨rfl, hb2⟩
          go_wp2_with fail
          refine (QT.out _).mono ?_
          rintro e w3 ⟨rfl, hb3'⟩
          have HO2 := Lib.hid (own_later (own_later HO.out hb2) hb3')
          have hb3 : Below w.heap.size w w3 := (hbw.trans (hb2.mono hbw.size)).trans (hb3'.mono (Nat.le_trans hbw.size hb2.size))
          clear ck hb2 hb3'
          by_cases hk0 : k = 0
          · have hk0' : ¬ (0 : Int) < (k : Int) := by omega
            have HK := Lib.hid hk0
            clear hk0
            go_wp2_with (at_builtin; go_must (refine wpList_append_one rfl (.tmp 39) (.tmp 41) _ rfl w.heap.size 9 i0 _ 16 Try.underlying23 hi0 hz0 hz1 hz2 rfl 9 (.string wb) rfl u3 k (strsOf (wordsTo ss k)) rfl HO2.out rfl (by simp only [maxLen]; omega) (by omega) hb3.size ?_; intro v4 w4 ho4 hb4))
            go_roundw
            case rel => exact ⟨k + 1, _, by omega, by go_num, rfl, (HN.out v4 w4 ho4 (hb3.trans hb4)).1 HK.out⟩
            case measure => simp [intOf]; omega
          · have hk0' : (0 : Int) < (k : Int) := by omega
            go_wp2_with (at_builtin; go_must (refine wpList_append_one rfl (.tmp 39) (.tmp 41) _ rfl w.heap.size 9 i0 _ 16 Try.underlying23 hi0 hz0 hz1 hz2 rfl 9 (.string wb) rfl u3 k (strsOf (wordsTo ss k)) rfl HO2.out rfl (by simp only [maxLen]; omega) (by omega) hb3.size ?_; intro v4 w4 ho4 hb4))
            go_roundw
            case rel => exact ⟨k + 1, _, by omega, by go_num, rfl, (HN.out v4 w4 ho4 (hb3.trans hb4)).2 hk0⟩
            case measure => simp [intOf]; omega
    · have hlt' : ¬ (k : Int) < (l0 : Int) := by omega
      obtain rfl : k = l0 := by omega
      obtain ⟨h1, h2, h3, h4⟩ := HR.out
      have hwl := wordsTo_len (ss := ss) (k := k) (by rw [HL.out]; exact Nat.le_refl _)
      have hsp : splitB qb 0 = wordsTo ss k := by
        refine split_join qb _ 0 ?_ ?_ (by rw [h3]; simp) (by omega)
        · intro e; rw [e] at hwl; simp at hwl; omega
        · intro x hx
          unfold wordsTo at hx
          obtain ⟨y, _, rfl⟩ := List.mem_map.1 hx
          exact wordy_word y
      have SP := Lib.hid (fun w => split_any qb w (by omega))
      rw [hsp] at SP
      have HW := Lib.hid hwl
      clear h3 hsp hwl HR
      go_wp2_with fail
      refine (SP.out _).mono ?_
      rintro e w5 ⟨v5, rfl, ho5, hb5⟩
      have HO5 := Lib.hid ho5
      clear ho5
      go_wp2_with fail
      refine (same_any (wordsTo ss k) v5 u3 _ _ _ (by rw [HW.out]; omega) HO5.out (by rw [HW.out]; exact own_later h1 hb5)).mono ?_
      rintro e w6 ⟨rfl, q, rfl⟩
      go_wp2_with fail
      go_ret
      exact ⟨rfl, (h2.trans (hb5.mono h2.size)).trans ⟨rfl, rfl, rfl, Nat.le_refl _, fun _ _ => rfl⟩⟩

theorem nameJoins_walk (a0 : Option Addr) (l0 c0 : Nat) (w : World) (r0 : Reads Try.prog w 23 [.slice a0 l0 c0]) :
    Calls Try.prog 4 #[.slice a0 l0 c0] w fun e w' => e = .returned (.bool true) ∧ Below w.heap.size w w' := by
  have key := r0.row1 Try.underlying23 (by kernel_rfl)
  clear r0
  have hz : l0 = 0 ∨ 0 < l0 := by omega
  rcases hz with rfl | h0
  · clear key
    go_enter Try.func4, Try.ntmps4
    go_wp2_with fail
    refine (nameAwake_any _).mono ?_
    rintro e w1 ⟨rfl, hb1⟩
    go_wp2_with fail
    go_ret
    exact ⟨rfl, hb1⟩
  rcases key with ⟨_, h, _⟩ | ⟨h, _⟩ | ⟨_, hl, hm, b, off, rfl, hb, hc⟩
  · omega
  · omega
  by_cases h50 : l0 ≤ 50
  · obtain ⟨ss, hs1, hs2⟩ := choose_list (Q := fun i (s : ByteArray) => w.cell? ⟨b, off + i, none⟩ = some (.string s) ∧ s.size ≤ maxLen) l0 (fun i hi => by
      obtain ⟨x, hx, hr⟩ := hc i hi
      obtain ⟨s, hs, hz⟩ := hr.string Try.underlying9
      obtain rfl : x = .string s := by injection hs
      exact ⟨s, hx, hz⟩)
    exact nameJoins_go b off l0 c0 ss w hs1 h0 h50 hb hs2
  · clear hc
    unfold maxLen at hm
    have e0 : ((l0 : Int) == 0) = false := beq_eq_false_iff_ne.2 (by omega)
    have e1 : (50 : Int) < (l0 : Int) := by omega
    go_enter Try.func4, Try.ntmps4
    go_wp2_with fail
    refine (nameAwake_any _).mono ?_
    rintro e w1 ⟨rfl, hb1⟩
    go_wp2_with fail
    go_ret
    exact ⟨rfl, hb1⟩
end Go.Proofs.Ytnbcalldkjbjjaa
