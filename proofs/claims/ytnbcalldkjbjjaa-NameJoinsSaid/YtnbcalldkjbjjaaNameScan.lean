/- The walks of name.quoted (all places), name.Scan, Unquote, Text. -/
import Derived.Test.YtnbcalldkjbjjaaNameQuoted
import Derived.Laws.IdiomStrings
namespace Go.Proofs.Ytnbcalldkjbjjaa
open Go.RowKit Punnet.Name
set_option linter.unusedVariables false

theorem quoted_no (s : ByteArray) (k0 : Nat) (w : World) (hs : s.size ≤ 16777216) (h : ∀ hk : k0 < s.size, s[k0].toNat ≠ 34) :
    Calls Try.prog 23 #[.string s, .int .i64 (k0 : Int)] w (Quoted s k0 w) := by
  have hq : quotedAt s.data.toList k0 = none := by
    unfold quotedAt
    split
    · rename_i hk
      have hk' : k0 < s.size := by simpa using hk
      rw [if_neg (by rw [get_data s k0 hk']; exact h hk')]
    · rfl
  have HQ := Lib.hid hq
  clear hq
  by_cases hk : k0 < s.size
  · have hk' : ¬ (s.size : Int) ≤ k0 := by omega
    have h1 := h hk
    have b34 : ((s[k0].toNat : Int) != 34) = true := by rw [bne_iff_ne]; omega
    clear h h1
    go_enter Try.func23, Try.ntmps23
    go_wp2
    go_step3
    go_wp2
    rw [Exit.noGoto_ret]
    go_ret3
    exact .inl ⟨HQ.out, rfl, Below.refl _ _⟩
  · have hk' : (s.size : Int) ≤ k0 := by omega
    clear h
    go_enter Try.func23, Try.ntmps23
    go_wp2
    go_step3
    go_wp2
    rw [Exit.noGoto_ret]
    go_ret3
    exact .inl ⟨HQ.out, rfl, Below.refl _ _⟩

/-- name.quoted, at any place. -/
theorem quoted_any (s : ByteArray) (k0 : Nat) (w : World) (hs : s.size ≤ 16777216) :
    Calls Try.prog 23 #[.string s, .int .i64 (k0 : Int)] w (Quoted s k0 w) := by
  by_cases h : ∃ hk : k0 < s.size, s[k0].toNat = 34
  · obtain ⟨hk, h34⟩ := h
    exact quoted_go s k0 w hs hk h34
  · exact quoted_no s k0 w hs fun hk h34 => h ⟨hk, h34⟩

/-- The place where the word ends that begins at a place. -/
def blankAt (l : List UInt8) (k : Nat) : Nat := k + ((l.drop k).takeWhile fun b => decide (b.toNat ≠ 32)).length
def wordEndOf (l : List UInt8) (k : Nat) : Nat := match quotedAt l k with
  | some (_, e) => if e = l.length ∨ l[e]? = some 32 then e else blankAt l k
  | none => blankAt l k

theorem blankAt_eq {l : List UInt8} {k e : Nat} (hk : k ≤ e) (he : e ≤ l.length) (ha : ∀ j (h : j < l.length), k ≤ j → j < e → l[j].toNat ≠ 32) (hs : ∀ h : e < l.length, l[e].toNat = 32) : blankAt l k = e := by
  have h : ∀ (n : Nat) (m : List UInt8), n ≤ m.length → (∀ j (h : j < m.length), j < n → m[j].toNat ≠ 32) → (∀ h : n < m.length, m[n].toNat = 32) → (m.takeWhile fun b => decide (b.toNat ≠ 32)).length = n := by
    intro n m
    induction m generalizing n with
    | nil => intro hn _ _; simp at hn; simp [hn]
    | cons b r ih =>
      intro hn ha hs
      cases n with
      | zero =>
        have hb : b.toNat = 32 := hs (by simp)
        rw [List.takeWhile_cons, if_neg (by simp [hb])]; rfl
      | succ n =>
        have hb : b.toNat ≠ 32 := ha 0 (by simp) (by omega)
        rw [List.takeWhile_cons, if_pos (by simp [hb]), List.length_cons, ih n (by simpa using hn) (fun j h hj => ha (j + 1) (by simpa using h) (by omega)) (fun h => hs (by simpa using h))]
  rw [blankAt, h (e - k) (l.drop k) (by rw [List.length_drop]; omega)]
  · omega
  · intro j hj hje
    rw [List.length_drop] at hj
    rw [List.getElem_drop]
    exact ha _ _ (by omega) (by omega)
  · intro hj
    rw [List.length_drop] at hj
    rw [List.getElem_drop]
    have := hs (by omega)
    rw [show l[k + (e - k)]'(by omega) = l[e]'(by omega) from by congr 1; omega]
    exact this

theorem blank_eq {s : ByteArray} {k j : Nat} (h1 : k ≤ j) (h2 : j ≤ s.size) (hd : ∀ x (h : x < s.size), k ≤ x → x < j → s[x].toNat ≠ 32) (hs : ∀ h : j < s.size, s[j].toNat = 32) : blankAt s.data.toList k = j := by
  have hlen : s.data.toList.length = s.size := by simp
  refine blankAt_eq h1 (by omega) (fun x h hk hx => ?_) (fun h => ?_)
  · rw [get_data s x (by omega)]; exact hd x _ hk hx
  · rw [get_data s j (by omega)]; exact hs _

set_option maxHeartbeats 1000000 in
theorem wordEnd_any (s : ByteArray) (k : Nat) (w : World) (hs : s.size ≤ 16777216) (hk : k ≤ s.size) :
    Calls Try.prog 19 #[.string s, .int .i64 (k : Int)] w fun e w' => e = .returned (.int .i64 (wordEndOf s.data.toList k : Int)) ∧ Below w.heap.size w w' := by
  have hml : s.size ≤ 9223372036854775807 := by omega
  go_enter Try.func19, Try.ntmps19
  go_wp2_with fail
  refine (quoted_any s k w hs).mono ?_
  rintro e w1 (⟨hq, rfl, hb1⟩ | ⟨t, n, v, hq, rfl, hown, hb1⟩)
  · have HW := Lib.hid (show wordEndOf s.data.toList k = blankAt s.data.toList k by unfold wordEndOf; rw [hq])
    clear hq
    go_wp2_with fail
    go_loop [6] (fun i => ∃ j : Nat, k ≤ j ∧ j ≤ s.size ∧ i = .int .i64 (j : Int) ∧ ∀ x (h : x < s.size), k ≤ x → x < j → s[x].toNat ≠ 32) (fun i => s.size - (intOf i).toNat)
    case atStart => exact ⟨k, Nat.le_refl _, hk, rfl, fun _ _ h1 h2 => absurd h1 (by omega)⟩
    case round =>
      obtain ⟨j, hj1, hj2, rfl, hd⟩ := hrel
      have HD := Lib.hid hd
      clear hd
      by_cases hlt : j < s.size
      · have hlt' : (j : Int) < s.size := by omega
        by_cases hb : s[j].toNat = 32
        · have b32 : ((s[j].toNat : Int) != 32) = false := by rw [bne_eq_false_iff_eq]; omega
          have HE := Lib.hid (show wordEndOf s.data.toList k = j by rw [HW.out]; exact blank_eq hj1 hj2 HD.out (fun _ => hb))
          clear hb
          go_wp2_with fail
          go_ret
          exact ⟨ret_i64 (by rw [HE.out]), hb1⟩
        · have b32 : ((s[j].toNat : Int) != 32) = true := by rw [bne_iff_ne]; omega
          have HD2 := Lib.hid (show ∀ x (h : x < s.size), k ≤ x → x < j + 1 → s[x].toNat ≠ 32 from fun x h h1 h2 => by
            by_cases e : x = j
            · subst e; exact hb
            · exact HD.out x h h1 (by omega))
          clear hb
          go_wp2_with fail
          go_round
          case rel => exact ⟨j + 1, by omega, by omega, by go_num, HD2.out⟩
          case measure => simp [intOf]; omega
      · have hlt' : ¬ (j : Int) < s.size := by omega
        have HE := Lib.hid (show wordEndOf s.data.toList k = j by rw [HW.out]; exact blank_eq hj1 hj2 HD.out (fun h => absurd h hlt))
        go_wp2_with fail
        go_ret
        exact ⟨ret_i64 (by rw [HE.out]), hb1⟩
  · have hle := quotedAt_le hq
    have hlen : s.data.toList.length = s.size := by simp
    have hn : n ≤ s.size := by omega
    have hwe : wordEndOf s.data.toList k = if n = s.size ∨ s.data.toList[n]? = some 32 then n else blankAt s.data.toList k := by unfold wordEndOf; rw [hq, hlen]
    clear hq hle hown hlen
    by_cases he : n = s.size
    · have HW := Lib.hid (show wordEndOf s.data.toList k = n by rw [hwe, if_pos (.inl he)])
      have b1 : ((n : Int) == (s.size : Int)) = true := beq_iff_eq.2 (by omega)
      clear he hwe
      go_wp2_with fail
      go_ret
      exact ⟨ret_i64 (by rw [HW.out]), hb1⟩
    · have b1 : ((n : Int) == (s.size : Int)) = false := beq_eq_false_iff_ne.2 (by omega)
      have hlt : n < s.size := by omega
      have hlt' : (n : Int) < s.size := by omega
      have hg : s.data.toList[n]? = some s[n] := by rw [List.getElem?_eq_getElem (by simpa using hlt), get_data s n hlt]
      by_cases hb : s[n].toNat = 32
      · have HW := Lib.hid (show wordEndOf s.data.toList k = n by
          rw [hwe, if_pos (.inr (by rw [hg]; congr 1; exact UInt8.toNat_inj.1 hb))])
        have b2 : ((s[n].toNat : Int) == 32) = true := beq_iff_eq.2 (by omega)
        clear he hwe hg hb
        go_wp2_with fail
        go_ret
        exact ⟨ret_i64 (by rw [HW.out]), hb1⟩
      · have HW := Lib.hid (show wordEndOf s.data.toList k = blankAt s.data.toList k by
          rw [hwe, if_neg]
          rintro (h | h)
          · exact he h
          · rw [hg] at h; injection h with h; exact hb (by rw [h]; rfl))
        have b2 : ((s[n].toNat : Int) == 32) = false := beq_eq_false_iff_ne.2 (by omega)
        clear he hwe hg hb
        go_wp2_with fail
        go_loop [6] (fun i => ∃ j : Nat, k ≤ j ∧ j ≤ s.size ∧ i = .int .i64 (j : Int) ∧ ∀ x (h : x < s.size), k ≤ x → x < j → s[x].toNat ≠ 32) (fun i => s.size - (intOf i).toNat)
        case atStart => exact ⟨k, Nat.le_refl _, hk, rfl, fun _ _ h1 h2 => absurd h1 (by omega)⟩
        case round =>
          obtain ⟨j, hj1, hj2, rfl, hd⟩ := hrel
          have HD := Lib.hid hd
          clear hd
          by_cases hlt3 : j < s.size
          · have hlt3' : (j : Int) < s.size := by omega
            by_cases hb : s[j].toNat = 32
            · have b32 : ((s[j].toNat : Int) != 32) = false := by rw [bne_eq_false_iff_eq]; omega
              have HE := Lib.hid (show wordEndOf s.data.toList k = j by rw [HW.out]; exact blank_eq hj1 hj2 HD.out (fun _ => hb))
              clear hb
              go_wp2_with fail
              go_ret
              exact ⟨ret_i64 (by rw [HE.out]), hb1⟩
            · have b32 : ((s[j].toNat : Int) != 32) = true := by rw [bne_iff_ne]; omega
              have HD2 := Lib.hid (show ∀ x (h : x < s.size), k ≤ x → x < j + 1 → s[x].toNat ≠ 32 from fun x h h1 h2 => by
                by_cases e : x = j
                · subst e; exact hb
                · exact HD.out x h h1 (by omega))
              clear hb
              go_wp2_with fail
              go_round
              case rel => exact ⟨j + 1, by omega, by omega, by go_num, HD2.out⟩
              case measure => simp [intOf]; omega
          · have hlt3' : ¬ (j : Int) < s.size := by omega
            have HE := Lib.hid (show wordEndOf s.data.toList k = j by rw [HW.out]; exact blank_eq hj1 hj2 HD.out (fun h => absurd h hlt3))
            go_wp2_with fail
            go_ret
            exact ⟨ret_i64 (by rw [HE.out]), hb1⟩

end Go.Proofs.Ytnbcalldkjbjjaa
