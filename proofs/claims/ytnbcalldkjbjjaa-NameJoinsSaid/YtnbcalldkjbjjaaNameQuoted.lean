/- The walk of name.quoted. -/
import Derived.Test.YtnbcalldkjbjjaaNameSign
namespace Go.Proofs.Ytnbcalldkjbjjaa
open Go.RowKit Punnet.Name
set_option linter.unusedVariables false

theorem get_data (s : ByteArray) (k : Nat) (h : k < s.size) : s.data.toList[k]'(by simpa using h) = s[k] := by simp; rfl
/-- Bytes as cells. -/
def cellsOf (l : List UInt8) : List Value := l.map fun b => .int .u8 (b.toNat : Int)
theorem cellsOf_snoc (l : List UInt8) (b : UInt8) : cellsOf (l ++ [b]) = cellsOf l ++ [.int .u8 (b.toNat : Int)] := by simp [cellsOf]
theorem u8_info : (Try.prog.info? 5).map (fun i => (i.zero, i.size, i.bytes)) = some (some (.int .u8 0), 1, 1) := by kernel_rfl

/-- What holds where a quote is read on at k, behind the text T. -/
def QRel (s : ByteArray) (k0 : Nat) (w : World) (k : Nat) (T : List UInt8) (v : Value) (w' : World) : Prop :=
  k ≤ s.size ∧ T.length ≤ k ∧ w'.ownsRow w.heap.size 5 1 v T.length (cellsOf T) ∧ Below w.heap.size w w' ∧ quotedAt s.data.toList k0 = (bodyAt s.data.toList k).map fun p => (T ++ p.1, p.2)

/-- What name.quoted tells. -/
def Quoted (s : ByteArray) (k0 : Nat) (w : World) (e : Ending) (w' : World) : Prop :=
  (quotedAt s.data.toList k0 = none ∧ e = .returned (.tuple #[.slice none 0 0, .int .i64 0, .bool false]) ∧ Below w.heap.size w w') ∨
  ∃ (t : List UInt8) (n : Nat) (v : Value), quotedAt s.data.toList k0 = some (t, n) ∧ e = .returned (.tuple #[v, .int .i64 (n : Int), .bool true]) ∧ w'.ownsRow w.heap.size 5 1 v t.length (cellsOf t) ∧ Below w.heap.size w w'

/-- At the label sign. -/
def QSign (s : ByteArray) (k0 : Nat) (w : World) (a' : Act) (w' : World) : Prop :=
  ∃ (k : Nat) (T : List UInt8) (v : Value) (u8 u9 u10 u11 u12 u13 u14 u15 u16 u17 u18 u19 u20 u21 u22 u23 u24 u25 u26 u27 u28 u29 u30 u31 u32 u33 u34 u35 u36 u37 u38 u39 u40 u41 u42 u43 u44 u45 u46 u47 u48 u49 u50 u51 u52 u53 u54 u55 u56 u57 u58 : Value), a' = { tmps := #[.string s, .int .i64 (k : Int), undef, undef, .slice none 0 0, .int .i64 0, .bool false, v, u8, u9, u10, u11, u12, u13, u14, u15, u16, u17, u18, u19, u20, u21, u22, u23, u24, u25, u26, u27, u28, u29, u30, u31, u32, u33, u34, u35, u36, u37, u38, u39, u40, u41, u42, u43, u44, u45, u46, u47, u48, u49, u50, u51, u52, u53, u54, u55, u56, u57, u58], defers := [] } ∧ QRel s k0 w k T v w'
/-- At the label code. -/
def QCode (s : ByteArray) (k0 : Nat) (w : World) (a' : Act) (w' : World) : Prop :=
  ∃ (k : Nat) (T : List UInt8) (v : Value) (u8 u9 u10 u11 u12 u13 u14 u15 u16 u17 u18 u19 u20 u21 u22 u23 u24 u25 u26 u27 u28 u29 u30 u31 u32 u33 u34 u35 u36 u37 u38 u39 u40 u41 u42 u43 u44 u45 u46 u47 u48 u49 u50 u51 u52 u53 u54 u55 u56 u57 u58 : Value), a' = { tmps := #[.string s, .int .i64 (k : Int), undef, undef, .slice none 0 0, .int .i64 0, .bool false, v, u8, u9, u10, u11, u12, u13, u14, u15, u16, u17, u18, u19, u20, u21, u22, u23, u24, u25, u26, u27, u28, u29, u30, u31, u32, u33, u34, u35, u36, u37, u38, u39, u40, u41, u42, u43, u44, u45, u46, u47, u48, u49, u50, u51, u52, u53, u54, u55, u56, u57, u58], defers := [] } ∧ QRel s k0 w k T v w' ∧ ∃ h : k < s.size, s[k].toNat = 92
/-- At the label end. -/
def QEnd (s : ByteArray) (k0 : Nat) (w : World) (a' : Act) (w' : World) : Prop :=
  ∃ (k : Nat) (T : List UInt8) (v : Value) (u8 u9 u10 u11 u12 u13 u14 u15 u16 u17 u18 u19 u20 u21 u22 u23 u24 u25 u26 u27 u28 u29 u30 u31 u32 u33 u34 u35 u36 u37 u38 u39 u40 u41 u42 u43 u44 u45 u46 u47 u48 u49 u50 u51 u52 u53 u54 u55 u56 u57 u58 : Value), a' = { tmps := #[.string s, .int .i64 (k : Int), undef, undef, .slice none 0 0, .int .i64 0, .bool false, v, u8, u9, u10, u11, u12, u13, u14, u15, u16, u17, u18, u19, u20, u21, u22, u23, u24, u25, u26, u27, u28, u29, u30, u31, u32, u33, u34, u35, u36, u37, u38, u39, u40, u41, u42, u43, u44, u45, u46, u47, u48, u49, u50, u51, u52, u53, u54, u55, u56, u57, u58], defers := [] } ∧ QRel s k0 w k T v w' ∧ ∃ h : k < s.size, s[k].toNat = 34

theorem none_map {s : ByteArray} {k0 : Nat} {w : World} {k : Nat} {T : List UInt8} {v : Value} {w' : World} (h : QRel s k0 w k T v w') (hb : bodyAt s.data.toList k = none) : quotedAt s.data.toList k0 = none := by rw [h.2.2.2.2, hb]; rfl
theorem end_map {s : ByteArray} {k0 : Nat} {w : World} {k : Nat} {T : List UInt8} {v : Value} {w' : World} (h : QRel s k0 w k T v w') (hk : k < s.size) (hq : s[k].toNat = 34) : quotedAt s.data.toList k0 = some (T, k + 1) := by
  rw [h.2.2.2.2, bodyAt_end (by simpa using hk) (by rw [get_data s k hk]; exact hq)]; simp
theorem next_map {s : ByteArray} {k0 : Nat} {w : World} {k : Nat} {T : List UInt8} {v v' : Value} {w' w2 : World} (h : QRel s k0 w k T v w') (hk : k < s.size) (hq : s[k].toNat ≠ 34) {c : UInt8} {n : Nat} (hs : sign (s.data.toList.drop k) = some (c, n)) (hn : k + n + 1 ≤ s.size)
    (ho : w2.ownsRow w.heap.size 5 1 v' (T.length + 1) (cellsOf T ++ [.int .u8 (c.toNat : Int)])) (hb : Below w.heap.size w' w2) : QRel s k0 w (k + n + 1) (T ++ [c]) v' w2 := by
  obtain ⟨h1, h2, h3, h4, h5⟩ := h
  refine ⟨hn, by simp; omega, by rw [cellsOf_snoc, List.length_append, List.length_singleton]; exact ho, h4.trans hb, ?_⟩
  rw [h5, bodyAt_some (by simpa using hk) (by rw [get_data s k hk]; exact hq) hs]
  cases bodyAt s.data.toList (k + n + 1) with
  | none => rfl
  | some p => simp

set_option maxHeartbeats 2000000 in
theorem quoted_go (s : ByteArray) (k0 : Nat) (w : World) (hs : s.size ≤ 16777216) (hk0 : k0 < s.size) (hq : s[k0].toNat = 34) :
    Calls Try.prog 23 #[.string s, .int .i64 (k0 : Int)] w (Quoted s k0 w) := by
  obtain ⟨i0, hi0, hz0, hz1, hz2⟩ := info_parts u8_info
  have hk0' : ¬ (s.size : Int) ≤ k0 := by omega
  have b34 : ((s[k0].toNat : Int) != 34) = false := by rw [bne_eq_false_iff_eq]; omega
  have hml : s.size ≤ 9223372036854775807 := by omega
  go_enter Try.func23, Try.ntmps23
  go_wp2
  refine wp_scope_three (QSign s k0 w) (QEnd s k0 w) (QCode s k0 w) (fun a' _ => 3 * (s.size - (intOf (a'.tmps.getD 1 undef)).toNat) + 2) (fun _ _ => 0) (fun a' _ => 3 * (s.size - (intOf (a'.tmps.getD 1 undef)).toNat) + 1) rfl rfl rfl ?_ ?_ ?_ ?_
  · clear b34 hk0' hq
    rintro a' w' ⟨k, T, v, u8, u9, u10, u11, u12, u13, u14, u15, u16, u17, u18, u19, u20, u21, u22, u23, u24, u25, u26, u27, u28, u29, u30, u31, u32, u33, u34, u35, u36, u37, u38, u39, u40, u41, u42, u43, u44, u45, u46, u47, u48, u49, u50, u51, u52, u53, u54, u55, u56, u57, u58, rfl, hr⟩
    have hks := hr.1
    have hT := hr.2.1
    have hown := Lib.hid hr.2.2.1
    have hbw := hr.2.2.2.1
    have HR := Lib.hid hr
    clear hr
    by_cases hlt : k < s.size
    · have hlt' : ¬ (s.size : Int) ≤ k := by omega
      have hl : k < s.data.toList.length := by simpa using hlt
      by_cases h34 : s[k].toNat = 34
      · have b1 : ((s[k].toNat : Int) == 34) = true := beq_iff_eq.2 (by omega)
        have H34 := Lib.hid h34
        clear h34
        go_wp2
        go_step3
        refine ⟨⟨_, _, _, _, _, _, _, _, _, _, _, _, _, _, _, _, _, _, _, _, _, _, _, _, _, _, _, _, _, _, _, _, _, _, _, _, _, _, _, _, _, _, _, _, _, _, _, _, _, _, _, _, _, _, rfl, HR.out, hlt, H34.out⟩, ?_⟩
        show 0 < _
        omega
      · have b1 : ((s[k].toNat : Int) == 34) = false := beq_eq_false_iff_ne.2 (by omega)
        by_cases h92 : s[k].toNat = 92
        · have b2 : ((s[k].toNat : Int) == 92) = true := beq_iff_eq.2 (by omega)
          have H92 := Lib.hid h92
          clear h92 h34
          go_wp2
          go_step3
          refine ⟨⟨_, _, _, _, _, _, _, _, _, _, _, _, _, _, _, _, _, _, _, _, _, _, _, _, _, _, _, _, _, _, _, _, _, _, _, _, _, _, _, _, _, _, _, _, _, _, _, _, _, _, _, _, _, _, rfl, HR.out, hlt, H92.out⟩, ?_⟩
          show 3 * (s.size - (intOf (Value.int .i64 (k : Int))).toNat) + 1 < 3 * (s.size - (intOf (Value.int .i64 (k : Int))).toNat) + 2
          omega
        · have b2 : ((s[k].toNat : Int) == 92) = false := beq_eq_false_iff_ne.2 (by omega)
          have P := Lib.hid (plain_any s[k])
          cases hp : plainB s[k] with
          | true =>
            rw [hp] at P
            have HN := Lib.hid (fun v' w2 => next_map (v' := v') (w2 := w2) HR.out hlt h34 (sign_plain hl (by rw [get_data s k hlt]; exact h92) (by rw [get_data s k hlt]; exact hp)))
            rw [get_data s k hlt] at HN
            clear hp h34 h92
            go_wp2_with (first | (go_at_call 22; refine (P.out _).mono ?_; rintro e w1 ⟨rfl, rfl⟩) | (at_builtin; go_must (refine wpList_append_one rfl (.tmp 36) (.tmp 38) _ rfl w.heap.size 5 i0 _ 1 Try.underlying40 hi0 hz0 hz1 hz2 rfl 5 (.int .u8 (s[k].toNat : Int)) rfl v T.length (cellsOf T) rfl hown.out rfl (by simp only [maxLen]; omega) (by omega) hbw.size ?_; intro v1 w1 ho1 hb1)))
            go_step3
            refine ⟨⟨_, _, _, _, _, _, _, _, _, _, _, _, _, _, _, _, _, _, _, _, _, _, _, _, _, _, _, _, _, _, _, _, _, _, _, _, _, _, _, _, _, _, _, _, _, _, _, _, _, _, _, _, _, _, rfl, HN.out v1 w1 (by omega) ho1 hb1⟩, ?_⟩
            show 3 * (s.size - (intOf (Value.int .i64 ((k : Int) + 1))).toNat) + 2 < 3 * (s.size - (intOf (Value.int .i64 (k : Int))).toNat) + 2
            simp only [intOf]
            omega
          | false =>
            rw [hp] at P
            have HQ := Lib.hid (none_map HR.out (bodyAt_none hl (by rw [get_data s k hlt]; exact h34) (sign_other hl (by rw [get_data s k hlt]; exact h92) (by rw [get_data s k hlt]; exact hp))))
            clear hp h34 h92
            go_wp2_with (go_at_call 22; refine (P.out _).mono ?_; rintro e w1 ⟨rfl, rfl⟩)
            simp only [Exit.jumps]
            go_ret3
            exact .inl ⟨HQ.out, rfl, hbw⟩
    · have hlt' : (s.size : Int) ≤ k := by omega
      have HQ := Lib.hid (none_map HR.out (bodyAt_out (by simpa using hlt)))
      go_wp2
      simp only [Exit.jumps]
      go_ret3
      exact .inl ⟨HQ.out, rfl, hbw⟩
  · clear b34 hk0' hq
    rintro a' w' ⟨k, T, v, u8, u9, u10, u11, u12, u13, u14, u15, u16, u17, u18, u19, u20, u21, u22, u23, u24, u25, u26, u27, u28, u29, u30, u31, u32, u33, u34, u35, u36, u37, u38, u39, u40, u41, u42, u43, u44, u45, u46, u47, u48, u49, u50, u51, u52, u53, u54, u55, u56, u57, u58, rfl, hr, hk, h34⟩
    have HE := Lib.hid (end_map hr hk h34)
    have hown := Lib.hid hr.2.2.1
    have hbw := hr.2.2.2.1
    clear hr h34
    go_wp2
    simp only [Exit.jumps]
    go_ret3
    exact .inr ⟨T, k + 1, v, HE.out, rfl, hown.out, hbw⟩
  · rintro a' w' ⟨k, T, v, u8, u9, u10, u11, u12, u13, u14, u15, u16, u17, u18, u19, u20, u21, u22, u23, u24, u25, u26, u27, u28, u29, u30, u31, u32, u33, u34, u35, u36, u37, u38, u39, u40, u41, u42, u43, u44, u45, u46, u47, u48, u49, u50, u51, u52, u53, u54, u55, u56, u57, u58, rfl, hr, hk, h92⟩
    clear b34 hk0' hq
    have hks := hr.1
    have hT := hr.2.1
    have hown := Lib.hid hr.2.2.1
    have hbw := hr.2.2.2.1
    have HR := Lib.hid hr
    clear hr
    have hl : k < s.data.toList.length := by simpa using hk
    have hms : s.size ≤ maxLen := by simp only [maxLen]; omega
    have g92 : s.data.toList[k].toNat = 92 := by rw [get_data s k hk]; exact h92
    have g34 : s.data.toList[k].toNat ≠ 34 := by omega
    by_cases h3 : k + 2 < s.size
    · have hsg := sign_code (l := s.data.toList) (k := k) (by simpa using h3) g92
      rw [get_data s (k + 1) (by omega), get_data s (k + 2) h3] at hsg
      cases hc : code2 s[k + 1] s[k + 2] with
      | none =>
        rw [hc] at hsg
        have C := Lib.hid (fun w => coded_no s k w hms h3 hc)
        have HQ := Lib.hid (none_map HR.out (bodyAt_none hl g34 hsg))
        clear hc hsg g92 g34 h92
        go_wp2_with (go_at_call 25; refine (C.out _).mono ?_; rintro e w1 ⟨n, rfl, rfl⟩)
        simp only [Exit.jumps]
        go_ret3
        exact .inl ⟨HQ.out, rfl, hbw⟩
      | some x =>
        rw [hc] at hsg
        have C := Lib.hid (fun w => coded_yes s k w hms h3 hc)
        have HN := Lib.hid (fun v' w2 => next_map (v' := v') (w2 := w2) (n := 2) HR.out hk (by omega) hsg)
        clear hc hsg g92 g34 h92
        go_wp2_with (first | (go_at_call 25; refine (C.out _).mono ?_; rintro e w1 ⟨rfl, rfl⟩) | (at_builtin; go_must (refine wpList_append_one rfl (.tmp 50) (.tmp 52) _ rfl w.heap.size 5 i0 _ 1 Try.underlying40 hi0 hz0 hz1 hz2 rfl 5 (.int .u8 (x.toNat : Int)) rfl v T.length (cellsOf T) rfl hown.out rfl (by simp only [maxLen]; omega) (by omega) hbw.size ?_; intro v1 w1 ho1 hb1)))
        go_step3
        refine ⟨⟨_, _, _, _, _, _, _, _, _, _, _, _, _, _, _, _, _, _, _, _, _, _, _, _, _, _, _, _, _, _, _, _, _, _, _, _, _, _, _, _, _, _, _, _, _, _, _, _, _, _, _, _, _, _, rfl, HN.out v1 w1 (by omega) ho1 hb1⟩, ?_⟩
        show 3 * (s.size - (intOf (Value.int .i64 ((k : Int) + 3))).toNat) + 2 < 3 * (s.size - (intOf (Value.int .i64 (k : Int))).toNat) + 1
        simp only [intOf]
        omega
    · have C := Lib.hid (fun w => coded_short s k w hms hk (by omega))
      have HQ := Lib.hid (none_map HR.out (bodyAt_none hl g34 (sign_short hl g92 (by simp; omega))))
      clear g92 g34 h92
      go_wp2_with (go_at_call 25; refine (C.out _).mono ?_; rintro e w1 ⟨rfl, rfl⟩)
      simp only [Exit.jumps]
      go_ret3
      exact .inl ⟨HQ.out, rfl, hbw⟩
  · intro HL
    go_wp2
    go_step3
    refine (‹∀ (a : Act) (w : World), Code.wp _ _ _ a w → _› : _) _ _ (HL.out _ _ ?_)
    refine ⟨k0 + 1, [], .slice none 0 0, _, _, _, _, _, _, _, _, _, _, _, _, _, _, _, _, _, _, _, _, _, _, _, _, _, _, _, _, _, _, _, _, _, _, _, _, _, _, _, _, _, _, _, _, _, _, _, _, _, _, _, rfl, by omega, by simp, ⟨rfl, .inl ⟨rfl, rfl⟩⟩, Below.refl _ _, ?_⟩
    rw [quotedAt, dif_pos (by simpa using hk0), if_pos (by rw [get_data s k0 hk0]; exact hq)]
    simp
end Go.Proofs.Ytnbcalldkjbjjaa
