/- The walk of the reference's Split. Printed by gen_refsplit.py. -/
import Derived.Test.YtnbcalldkjbjjaaNameBegins
namespace Go.Proofs.Ytnbcalldkjbjjaa
open Go.RowKit Punnet.Name
set_option linter.unusedVariables false

set_option maxHeartbeats 4000000 in
theorem refSplit_any (s : ByteArray) (w : World) (hs : s.size ≤ 16777216) : Calls Try.prog 10 #[.string s] w (Words w (splitB s 0)) := by
  obtain ⟨i0, hi0, hz0, hz1, hz2⟩ := info_parts str_info
  have hlen : s.data.toList.length = s.size := by simp
  have hml : s.size ≤ 9223372036854775807 := by omega
  have HL := Lib.hid hlen
  clear hlen
  go_enter Try.func10, Try.ntmps10
  go_wp2_with fail
  go_loopw [3, 4] (fun v i wr => ∃ (k : Nat) (W : List ByteArray), i = .int .i64 (k : Int) ∧ k ≤ s.size ∧ W.length ≤ k ∧ SplitRel s w k v W wr) (fun _ i _ => s.size - (intOf i).toNat)
  case atStart => 
    refine ⟨0, [], rfl, Nat.zero_le _, Nat.le_refl _, ?_, ?_, by simp⟩
    · exact ⟨rfl, .inr ⟨w.heap.size, 0, #[], rfl, Nat.le_refl _, heap_alloc_new _ _, Nat.le_refl _, by simp [maxLen], rfl, rfl⟩⟩
    · exact (Below.refl _ _).alloc (Nat.le_refl _) _
  case round =>
    obtain ⟨k, W, rfl, hk, hW, hr⟩ := hrel
    have hown := Lib.hid hr.1
    have hbw := hr.2.1
    have HM := Lib.hid (fun he v' w2 w3 => SplitRel.more (v' := v') (w2 := w2) (w3 := w3) hr hk he)
    have HD := Lib.hid (fun he v' w2 w3 => SplitRel.done (v' := v') (w2 := w2) (w3 := w3) hr he)
    clear hr
    go_wp2_with fail
    refine (begins_any s k _ hs).mono ?_
    rintro e w1 ⟨hb1, ⟨hq, rfl⟩ | ⟨t, n, hq, rfl⟩⟩
    · have HW := Lib.hid (show wordEndOf s.data.toList k = blankAt s.data.toList k by unfold wordEndOf; rw [hq])
      clear hq
      go_wp2_with fail
      go_loop [6] (fun i => ∃ j : Nat, k ≤ j ∧ j ≤ s.size ∧ i = .int .i64 (j : Int) ∧ ∀ x (h : x < s.size), k ≤ x → x < j → s[x].toNat ≠ 32) (fun i => s.size - (intOf i).toNat)
      case atStart => exact ⟨k, Nat.le_refl _, hk, rfl, fun _ _ h1 h2 => absurd h1 (by omega)⟩
      case round =>
        obtain ⟨j, hj1, hj2, rfl, hd⟩ := hrel
        have HJ := Lib.hid hd
        clear hd
        have hj3 : (k : Int) ≤ j := by omega
        have hj4 : (j : Int) ≤ s.size := by omega
        by_cases hlt : j < s.size
        · have hlt' : (j : Int) < s.size := by omega
          by_cases hb : s[j].toNat = 32
          · have b32 : ((s[j].toNat : Int) != 32) = false := by rw [bne_eq_false_iff_eq]; omega
            have HE := Lib.hid (show wordEndOf s.data.toList k = j by rw [HW.out]; exact blank_eq hj1 hj2 HJ.out (fun _ => hb))
            have be : ((j : Int) == (s.size : Int)) = false := beq_eq_false_iff_ne.2 (by omega)
            clear hb HJ
            have HM2 := Lib.hid (HM.out (by rw [HE.out]; exact hlt))
            rw [HE.out] at HM2
            clear HM HD
            go_wp2_with (at_builtin; go_must (refine wpList_append_one rfl (.tmp 43) (.tmp 48) _ rfl w.heap.size 9 i0 _ 16 Try.underlying23 hi0 hz0 hz1 hz2 rfl 9 (.string (s.extract k j)) rfl _ W.length (strsOf W) rfl (own_later hown.out hb1) rfl (by simp only [maxLen]; omega) (by omega) (Nat.le_trans hbw.size hb1.size) ?_; intro v1 w2 ho1 hb2))
            go_roundw
            case rel => exact ⟨j + 1, W ++ [s.extract k j], by go_num, by omega, by simp; omega, HM2.out v1 w1 w2 hb1 ho1 hb2⟩
            case measure => simp [intOf]; omega
          · have b32 : ((s[j].toNat : Int) != 32) = true := by rw [bne_iff_ne]; omega
            have HD2 := Lib.hid (show ∀ x (h : x < s.size), k ≤ x → x < j + 1 → s[x].toNat ≠ 32 from fun x h h1 h2 => by
              by_cases e : x = j
              · subst e; exact hb
              · exact HJ.out x h h1 (by omega))
            clear hb
            go_wp2_with fail
            go_round
            case rel => exact ⟨j + 1, by omega, by omega, by go_num, HD2.out⟩
            case measure => simp [intOf]; omega
        · have hlt' : ¬ (j : Int) < s.size := by omega
          have HE := Lib.hid (show wordEndOf s.data.toList k = j by rw [HW.out]; exact blank_eq hj1 hj2 HJ.out (fun h => absurd h hlt))
          have be : ((j : Int) == (s.size : Int)) = true := beq_iff_eq.2 (by omega)
          clear HJ
          have HD2 := Lib.hid (HD.out (by rw [HE.out]; omega))
          rw [HE.out] at HD2
          clear HM HD
          go_wp2_with (at_builtin; go_must (refine wpList_append_one rfl (.tmp 43) (.tmp 48) _ rfl w.heap.size 9 i0 _ 16 Try.underlying23 hi0 hz0 hz1 hz2 rfl 9 (.string (s.extract k j)) rfl _ W.length (strsOf W) rfl (own_later hown.out hb1) rfl (by simp only [maxLen]; omega) (by omega) (Nat.le_trans hbw.size hb1.size) ?_; intro v1 w2 ho1 hb2))
          go_ret
          exact HD2.out v1 w1 w2 hb1 ho1 hb2
    · have hle := quotedAt_le hq
      have hlen := HL.out
      have hn : n ≤ s.size := by omega
      have hwe : wordEndOf s.data.toList k = if n = s.size ∨ s.data.toList[n]? = some 32 then n else blankAt s.data.toList k := by unfold wordEndOf; rw [hq, hlen]
      have hj1 : k ≤ n := by omega
      have hj3 : (k : Int) ≤ n := by omega
      have hj4 : (n : Int) ≤ s.size := by omega
      clear hq hle hlen
      by_cases he : n = s.size
      · have HE := Lib.hid (show wordEndOf s.data.toList k = n by rw [hwe, if_pos (.inl he)])
        have be : ((n : Int) == (s.size : Int)) = true := beq_iff_eq.2 (by omega)
        have hlt' : ¬ (n : Int) < s.size := by omega
        have hlt : ¬ n < s.size := by omega
        clear he hwe
        have HD2 := Lib.hid (HD.out (by rw [HE.out]; omega))
        rw [HE.out] at HD2
        clear HM HD
        go_wp2_with (at_builtin; go_must (refine wpList_append_one rfl (.tmp 43) (.tmp 48) _ rfl w.heap.size 9 i0 _ 16 Try.underlying23 hi0 hz0 hz1 hz2 rfl 9 (.string (s.extract k n)) rfl _ W.length (strsOf W) rfl (own_later hown.out hb1) rfl (by simp only [maxLen]; omega) (by omega) (Nat.le_trans hbw.size hb1.size) ?_; intro v1 w2 ho1 hb2))
        go_ret
        exact HD2.out v1 w1 w2 hb1 ho1 hb2
      · have be : ((n : Int) == (s.size : Int)) = false := beq_eq_false_iff_ne.2 (by omega)
        have hlt : n < s.size := by omega
        have hlt' : (n : Int) < s.size := by omega
        have hg : s.data.toList[n]? = some s[n] := by rw [List.getElem?_eq_getElem (by simpa using hlt), get_data s n hlt]
        by_cases hb : s[n].toNat = 32
        · have HE := Lib.hid (show wordEndOf s.data.toList k = n by
            rw [hwe, if_pos (.inr (by rw [hg]; congr 1; exact UInt8.toNat_inj.1 hb))])
          have b2 : ((s[n].toNat : Int) != 32) = false := by rw [bne_eq_false_iff_eq]; omega
          clear he hwe hg hb
          have HM2 := Lib.hid (HM.out (by rw [HE.out]; exact hlt))
          rw [HE.out] at HM2
          clear HM HD
          go_wp2_with (at_builtin; go_must (refine wpList_append_one rfl (.tmp 43) (.tmp 48) _ rfl w.heap.size 9 i0 _ 16 Try.underlying23 hi0 hz0 hz1 hz2 rfl 9 (.string (s.extract k n)) rfl _ W.length (strsOf W) rfl (own_later hown.out hb1) rfl (by simp only [maxLen]; omega) (by omega) (Nat.le_trans hbw.size hb1.size) ?_; intro v1 w2 ho1 hb2))
          go_roundw
          case rel => exact ⟨n + 1, W ++ [s.extract k n], by go_num, by omega, by simp; omega, HM2.out v1 w1 w2 hb1 ho1 hb2⟩
          case measure => simp [intOf]; omega
        · have HW := Lib.hid (show wordEndOf s.data.toList k = blankAt s.data.toList k by
            rw [hwe, if_neg]
            rintro (h | h)
            · exact he h
            · rw [hg] at h; injection h with h; exact hb (by rw [h]; rfl))
          have b2 : ((s[n].toNat : Int) != 32) = true := by rw [bne_iff_ne]; omega
          clear he hwe hg hb be
          go_wp2_with fail
          go_loop [6] (fun i => ∃ j : Nat, k ≤ j ∧ j ≤ s.size ∧ i = .int .i64 (j : Int) ∧ ∀ x (h : x < s.size), k ≤ x → x < j → s[x].toNat ≠ 32) (fun i => s.size - (intOf i).toNat)
          case atStart => exact ⟨k, Nat.le_refl _, hk, rfl, fun _ _ h1 h2 => absurd h1 (by omega)⟩
          case round =>
            obtain ⟨j, hj1, hj2, rfl, hd⟩ := hrel
            have HJ := Lib.hid hd
            clear hd
            have hj3 : (k : Int) ≤ j := by omega
            have hj4 : (j : Int) ≤ s.size := by omega
            by_cases hlt : j < s.size
            · have hlt' : (j : Int) < s.size := by omega
              by_cases hb : s[j].toNat = 32
              · have b32 : ((s[j].toNat : Int) != 32) = false := by rw [bne_eq_false_iff_eq]; omega
                have HE := Lib.hid (show wordEndOf s.data.toList k = j by rw [HW.out]; exact blank_eq hj1 hj2 HJ.out (fun _ => hb))
                have be : ((j : Int) == (s.size : Int)) = false := beq_eq_false_iff_ne.2 (by omega)
                clear hb HJ
                have HM2 := Lib.hid (HM.out (by rw [HE.out]; exact hlt))
                rw [HE.out] at HM2
                clear HM HD
                go_wp2_with (at_builtin; go_must (refine wpList_append_one rfl (.tmp 43) (.tmp 48) _ rfl w.heap.size 9 i0 _ 16 Try.underlying23 hi0 hz0 hz1 hz2 rfl 9 (.string (s.extract k j)) rfl _ W.length (strsOf W) rfl (own_later hown.out hb1) rfl (by simp only [maxLen]; omega) (by omega) (Nat.le_trans hbw.size hb1.size) ?_; intro v1 w2 ho1 hb2))
                go_roundw
                case rel => exact ⟨j + 1, W ++ [s.extract k j], by go_num, by omega, by simp; omega, HM2.out v1 w1 w2 hb1 ho1 hb2⟩
                case measure => simp [intOf]; omega
              · have b32 : ((s[j].toNat : Int) != 32) = true := by rw [bne_iff_ne]; omega
                have HD2 := Lib.hid (show ∀ x (h : x < s.size), k ≤ x → x < j + 1 → s[x].toNat ≠ 32 from fun x h h1 h2 => by
                  by_cases e : x = j
                  · subst e; exact hb
                  · exact HJ.out x h h1 (by omega))
                clear hb
                go_wp2_with fail
                go_round
                case rel => exact ⟨j + 1, by omega, by omega, by go_num, HD2.out⟩
                case measure => simp [intOf]; omega
            · have hlt' : ¬ (j : Int) < s.size := by omega
              have HE := Lib.hid (show wordEndOf s.data.toList k = j by rw [HW.out]; exact blank_eq hj1 hj2 HJ.out (fun h => absurd h hlt))
              have be : ((j : Int) == (s.size : Int)) = true := beq_iff_eq.2 (by omega)
              clear HJ
              have HD2 := Lib.hid (HD.out (by rw [HE.out]; omega))
              rw [HE.out] at HD2
              clear HM HD
              go_wp2_with (at_builtin; go_must (refine wpList_append_one rfl (.tmp 43) (.tmp 48) _ rfl w.heap.size 9 i0 _ 16 Try.underlying23 hi0 hz0 hz1 hz2 rfl 9 (.string (s.extract k j)) rfl _ W.length (strsOf W) rfl (own_later hown.out hb1) rfl (by simp only [maxLen]; omega) (by omega) (Nat.le_trans hbw.size hb1.size) ?_; intro v1 w2 ho1 hb2))
              go_ret
              exact HD2.out v1 w1 w2 hb1 ho1 hb2

end Go.Proofs.Ytnbcalldkjbjjaa
