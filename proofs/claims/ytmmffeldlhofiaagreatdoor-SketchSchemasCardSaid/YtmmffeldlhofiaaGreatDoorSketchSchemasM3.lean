/- Part 3 of what the proof of SketchSchemas stands on: NameQuoted, NameScan, NameSplit, NameLaw, NameRef, NameBegins, NameRefSplit, NameSame, NameOk, NameText, NameQuote, NameQuoteP, NameScans, NameJoin, NumPlain, NumLaw, Xg9, XgU, XgS, CdP, PnP, Tt, LnName, LnPlace, LnEq. -/
import Derived.Laws.IdiomStrings
import Derived.Lib.IndexBytes
import Derived.Deep.QuietTactic
import Derived.BigQuiet
import Derived.Lib.SmallJoins
import Derived.StillTailTactics
import Derived.Outline
import Derived.Deep.RegionHeld3
import Derived.Deep.AppendLies
import GoSem.Op.String
import Derived.KernelRfl
import Derived.Test.YtmmffeldlhofiaaGreatDoorSketchSchemasM2
section
namespace Go.Proofs.YtmmffeldlhofiaaGreatDoor
set_option maxRecDepth 10000
open Go.RowKit Punnet.Name
set_option linter.unusedVariables false

theorem get_data (s : ByteArray) (k : Nat) (h : k < s.size) : s.data.toList[k]'(by simpa using h) = s[k] := by simp; rfl
/-- Bytes as cells. -/
def cellsOf (l : List UInt8) : List Value := l.map fun b => .int .u8 (b.toNat : Int)
theorem cellsOf_snoc (l : List UInt8) (b : UInt8) : cellsOf (l ++ [b]) = cellsOf l ++ [.int .u8 (b.toNat : Int)] := by simp [cellsOf]
theorem u8_info : (Tryz.prog.info? 5).map (fun i => (i.zero, i.size, i.bytes)) = some (some (.int .u8 0), 1, 1) := by kernel_rfl

/-- What holds where a quote is read on at k, behind the text T. -/
def QRel (s : ByteArray) (k0 : Nat) (w : World) (k : Nat) (T : List UInt8) (v : Value) (w' : World) : Prop :=
  k ≤ s.size ∧ T.length ≤ k ∧ w'.ownsRow w.heap.size 5 1 v T.length (cellsOf T) ∧ Below w.heap.size w w' ∧ quotedAt s.data.toList k0 = (bodyAt s.data.toList k).map fun p => (T ++ p.1, p.2)

/-- What name.quoted tells. -/
def Quoted (s : ByteArray) (k0 : Nat) (w : World) (e : Ending) (w' : World) : Prop :=
  (quotedAt s.data.toList k0 = none ∧ e = .returned (.tuple #[.slice none 0 0, .int .i64 0, .bool false]) ∧ Below w.heap.size w w') ∨
  ∃ (t : List UInt8) (n : Nat) (v : Value), quotedAt s.data.toList k0 = some (t, n) ∧ e = .returned (.tuple #[v, .int .i64 (n : Int), .bool true]) ∧ w'.ownsRow w.heap.size 5 1 v t.length (cellsOf t) ∧ Below w.heap.size w w'

/-- At the label sign. -/
def QSign (s : ByteArray) (k0 : Nat) (w : World) (a' : Act) (w' : World) : Prop :=
  ∃ (k : Nat) (T : List UInt8) (v : Value) (u8 u9 u10 u11 u12 u13 u14 u15 u16 u17 u18 u19 u20 u21 u22 u23 u24 u25 u26 u27 u28 u29 u30 u31 u32 u33 u34 u35 u36 u37 u38 u39 u40 u41 u42 u43 u44 u45 u46 u47 u48 u49 u50 u51 u52 u53 u54 u55 u56 u57 u58 : Value), a' = { tmps := #[.string s, .int .i64 (k : Int), undef, undef, .slice none 0 0, .int .i64 0, .bool false, v, u8, u9, u10, u11, u12, u13, u14, u15, u16, u17, u18, u19, u20, u21, u22, u23, u24, u25, u26, u27, u28, u29, u30, u31, u32, u33, u34, u35, u36, u37, u38, u39, u40, u41, u42, u43, u44, u45, u46, u47, u48, u49, u50, u51, u52, u53, u54, u55, u56, u57, u58], defers := [] } ∧ QRel s k0 w k T v w'
/-- At the label code. -/
def QCode (s : ByteArray) (k0 : Nat) (w : World) (a' : Act) (w' : World) : Prop :=
  ∃ (k : Nat) (T : List UInt8) (v : Value) (u8 u9 u10 u11 u12 u13 u14 u15 u16 u17 u18 u19 u20 u21 u22 u23 u24 u25 u26 u27 u28 u29 u30 u31 u32 u33 u34 u35 u36 u37 u38 u39 u40 u41 u42 u43 u44 u45 u46 u47 u48 u49 u50 u51 u52 u53 u54 u55 u56 u57 u58 : Value), a' = { tmps := #[.string s, .int .i64 (k : Int), undef, undef, .slice none 0 0, .int .i64 0, .bool false, v, u8, u9, u10, u11, u12, u13, u14, u15, u16, u17, u18, u19, u20, u21, u22, u23, u24, u25, u26, u27, u28, u29, u30, u31, u32, u33, u34, u35, u36, u37, u38, u39, u40, u41, u42, u43, u44, u45, u46, u47, u48, u49, u50, u51, u52, u53, u54, u55, u56, u57, u58], defers := [] } ∧ QRel s k0 w k T v w' ∧ ∃ h : k < s.size, s[k].toNat = 92
/-- At the label end. -/
def QEnd (s : ByteArray) (k0 : Nat) (w : World) (a' : Act) (w' : World) : Prop :=
  ∃ (k : Nat) (T : List UInt8) (v : Value) (u8 u9 u10 u11 u12 u13 u14 u15 u16 u17 u18 u19 u20 u21 u22 u23 u24 u25 u26 u27 u28 u29 u30 u31 u32 u33 u34 u35 u36 u37 u38 u39 u40 u41 u42 u43 u44 u45 u46 u47 u48 u49 u50 u51 u52 u53 u54 u55 u56 u57 u58 : Value), a' = { tmps := #[.string s, .int .i64 (k : Int), undef, undef, .slice none 0 0, .int .i64 0, .bool false, v, u8, u9, u10, u11, u12, u13, u14, u15, u16, u17, u18, u19, u20, u21, u22, u23, u24, u25, u26, u27, u28, u29, u30, u31, u32, u33, u34, u35, u36, u37, u38, u39, u40, u41, u42, u43, u44, u45, u46, u47, u48, u49, u50, u51, u52, u53, u54, u55, u56, u57, u58], defers := [] } ∧ QRel s k0 w k T v w' ∧ ∃ h : k < s.size, s[k].toNat = 34

theorem none_map {s : ByteArray} {k0 : Nat} {w : World} {k : Nat} {T : List UInt8} {v : Value} {w' : World} (h : QRel s k0 w k T v w') (hb : bodyAt s.data.toList k = none) : quotedAt s.data.toList k0 = none := by rw [h.2.2.2.2, hb]; rfl
theorem end_map {s : ByteArray} {k0 : Nat} {w : World} {k : Nat} {T : List UInt8} {v : Value} {w' : World} (h : QRel s k0 w k T v w') (hk : k < s.size) (hq : s[k].toNat = 34) : quotedAt s.data.toList k0 = some (T, k + 1) := by
  rw [h.2.2.2.2, bodyAt_end (by simpa using hk) (by rw [get_data s k hk]; exact hq)]; simp
theorem next_map {s : ByteArray} {k0 : Nat} {w : World} {k : Nat} {T : List UInt8} {v v' : Value} {w' w2 : World} (h : QRel s k0 w k T v w') (hk : k < s.size) (hq : s[k].toNat ≠ 34) {c : UInt8} {n : Nat} (hs : sign (s.data.toList.drop k) = some (c, n)) (hn : k + n + 1 ≤ s.size)
    (ho : w2.ownsRow w.heap.size 5 1 v' (T.length + 1) (cellsOf T ++ [.int .u8 (c.toNat : Int)])) (hb : Below w.heap.size w' w2) : QRel s k0 w (k + n + 1) (T ++ [c]) v' w2 := by
  obtain ⟨h1, h2, h3, h4, h5⟩ := h
  refine ⟨hn, by simp; omega, by rw [cellsOf_snoc, List.length_append, List.length_singleton]; exact ho, h4.trans hb, ?_⟩
  rw [h5, bodyAt_some (by simpa using hk) (by rw [get_data s k hk]; exact hq) hs]
  cases bodyAt s.data.toList (k + n + 1) with
  | none => rfl
  | some p => simp

set_option maxHeartbeats 2000000 in
theorem quoted_go (s : ByteArray) (k0 : Nat) (w : World) (hs : s.size ≤ 16777216) (hk0 : k0 < s.size) (hq : s[k0].toNat = 34) :
    Calls Tryz.prog 157 #[.string s, .int .i64 (k0 : Int)] w (Quoted s k0 w) := by
  obtain ⟨i0, hi0, hz0, hz1, hz2⟩ := info_parts u8_info
  have hk0' : ¬ (s.size : Int) ≤ k0 := by omega
  have b34 : ((s[k0].toNat : Int) != 34) = false := by rw [bne_eq_false_iff_eq]; omega
  have hml : s.size ≤ 9223372036854775807 := by omega
  go_enter Tryz.func157, Tryz.ntmps157
  go_wp2
  refine wp_scope_three (QSign s k0 w) (QEnd s k0 w) (QCode s k0 w) (fun a' _ => 3 * (s.size - (intOf (a'.tmps.getD 1 undef)).toNat) + 2) (fun _ _ => 0) (fun a' _ => 3 * (s.size - (intOf (a'.tmps.getD 1 undef)).toNat) + 1) rfl rfl rfl ?_ ?_ ?_ ?_
  · clear b34 hk0' hq
    rintro a' w' ⟨k, T, v, u8, u9, u10, u11, u12, u13, u14, u15, u16, u17, u18, u19, u20, u21, u22, u23, u24, u25, u26, u27, u28, u29, u30, u31, u32, u33, u34, u35, u36, u37, u38, u39, u40, u41, u42, u43, u44, u45, u46, u47, u48, u49, u50, u51, u52, u53, u54, u55, u56, u57, u58, rfl, hr⟩
    have hks := hr.1
    have hT := hr.2.1
    have hown := Lib.hid hr.2.2.1
    have hbw := hr.2.2.2.1
    have HR := Lib.hid hr
    clear hr
    by_cases hlt : k < s.size
    · have hlt' : ¬ (s.size : Int) ≤ k := by omega
      have hl : k < s.data.toList.length := by simpa using hlt
      by_cases h34 : s[k].toNat = 34
      · have b1 : ((s[k].toNat : Int) == 34) = true := beq_iff_eq.2 (by omega)
        have H34 := Lib.hid h34
        clear h34
        go_wp2
        go_step3
        refine ⟨⟨_, _, _, _, _, _, _, _, _, _, _, _, _, _, _, _, _, _, _, _, _, _, _, _, _, _, _, _, _, _, _, _, _, _, _, _, _, _, _, _, _, _, _, _, _, _, _, _, _, _, _, _, _, _, rfl, HR.out, hlt, H34.out⟩, ?_⟩
        show 0 < _
        omega
      · have b1 : ((s[k].toNat : Int) == 34) = false := beq_eq_false_iff_ne.2 (by omega)
        by_cases h92 : s[k].toNat = 92
        · have b2 : ((s[k].toNat : Int) == 92) = true := beq_iff_eq.2 (by omega)
          have H92 := Lib.hid h92
          clear h92 h34
          go_wp2
          go_step3
          refine ⟨⟨_, _, _, _, _, _, _, _, _, _, _, _, _, _, _, _, _, _, _, _, _, _, _, _, _, _, _, _, _, _, _, _, _, _, _, _, _, _, _, _, _, _, _, _, _, _, _, _, _, _, _, _, _, _, rfl, HR.out, hlt, H92.out⟩, ?_⟩
          show 3 * (s.size - (intOf (Value.int .i64 (k : Int))).toNat) + 1 < 3 * (s.size - (intOf (Value.int .i64 (k : Int))).toNat) + 2
          omega
        · have b2 : ((s[k].toNat : Int) == 92) = false := beq_eq_false_iff_ne.2 (by omega)
          have P := Lib.hid (plain_any s[k])
          cases hp : plainB s[k] with
          | true =>
            rw [hp] at P
            have HN := Lib.hid (fun v' w2 => next_map (v' := v') (w2 := w2) HR.out hlt h34 (sign_plain hl (by rw [get_data s k hlt]; exact h92) (by rw [get_data s k hlt]; exact hp)))
            rw [get_data s k hlt] at HN
            clear hp h34 h92
            go_wp2_with (first | (go_at_call 154; refine (P.out _).mono ?_; rintro e w1 ⟨rfl, rfl⟩) | (at_builtin; go_must (refine wpList_append_one rfl (.tmp 36) (.tmp 38) _ rfl w.heap.size 5 i0 _ 1 Tryz.underlying133 hi0 hz0 hz1 hz2 rfl 5 (.int .u8 (s[k].toNat : Int)) rfl v T.length (cellsOf T) rfl hown.out rfl (by simp only [maxLen]; omega) (by omega) hbw.size ?_; intro v1 w1 ho1 hb1)))
            go_step3
            refine ⟨⟨_, _, _, _, _, _, _, _, _, _, _, _, _, _, _, _, _, _, _, _, _, _, _, _, _, _, _, _, _, _, _, _, _, _, _, _, _, _, _, _, _, _, _, _, _, _, _, _, _, _, _, _, _, _, rfl, HN.out v1 w1 (by omega) ho1 hb1⟩, ?_⟩
            show 3 * (s.size - (intOf (Value.int .i64 ((k : Int) + 1))).toNat) + 2 < 3 * (s.size - (intOf (Value.int .i64 (k : Int))).toNat) + 2
            simp only [intOf]
            omega
          | false =>
            rw [hp] at P
            have HQ := Lib.hid (none_map HR.out (bodyAt_none hl (by rw [get_data s k hlt]; exact h34) (sign_other hl (by rw [get_data s k hlt]; exact h92) (by rw [get_data s k hlt]; exact hp))))
            clear hp h34 h92
            go_wp2_with (go_at_call 154; refine (P.out _).mono ?_; rintro e w1 ⟨rfl, rfl⟩)
            simp only [Exit.jumps]
            go_ret3
            exact .inl ⟨HQ.out, rfl, hbw⟩
    · have hlt' : (s.size : Int) ≤ k := by omega
      have HQ := Lib.hid (none_map HR.out (bodyAt_out (by simpa using hlt)))
      go_wp2
      simp only [Exit.jumps]
      go_ret3
      exact .inl ⟨HQ.out, rfl, hbw⟩
  · clear b34 hk0' hq
    rintro a' w' ⟨k, T, v, u8, u9, u10, u11, u12, u13, u14, u15, u16, u17, u18, u19, u20, u21, u22, u23, u24, u25, u26, u27, u28, u29, u30, u31, u32, u33, u34, u35, u36, u37, u38, u39, u40, u41, u42, u43, u44, u45, u46, u47, u48, u49, u50, u51, u52, u53, u54, u55, u56, u57, u58, rfl, hr, hk, h34⟩
    have HE := Lib.hid (end_map hr hk h34)
    have hown := Lib.hid hr.2.2.1
    have hbw := hr.2.2.2.1
    clear hr h34
    go_wp2
    simp only [Exit.jumps]
    go_ret3
    exact .inr ⟨T, k + 1, v, HE.out, rfl, hown.out, hbw⟩
  · rintro a' w' ⟨k, T, v, u8, u9, u10, u11, u12, u13, u14, u15, u16, u17, u18, u19, u20, u21, u22, u23, u24, u25, u26, u27, u28, u29, u30, u31, u32, u33, u34, u35, u36, u37, u38, u39, u40, u41, u42, u43, u44, u45, u46, u47, u48, u49, u50, u51, u52, u53, u54, u55, u56, u57, u58, rfl, hr, hk, h92⟩
    clear b34 hk0' hq
    have hks := hr.1
    have hT := hr.2.1
    have hown := Lib.hid hr.2.2.1
    have hbw := hr.2.2.2.1
    have HR := Lib.hid hr
    clear hr
    have hl : k < s.data.toList.length := by simpa using hk
    have hms : s.size ≤ maxLen := by simp only [maxLen]; omega
    have g92 : s.data.toList[k].toNat = 92 := by rw [get_data s k hk]; exact h92
    have g34 : s.data.toList[k].toNat ≠ 34 := by omega
    by_cases h3 : k + 2 < s.size
    · have hsg := sign_code (l := s.data.toList) (k := k) (by simpa using h3) g92
      rw [get_data s (k + 1) (by omega), get_data s (k + 2) h3] at hsg
      cases hc : code2 s[k + 1] s[k + 2] with
      | none =>
        rw [hc] at hsg
        have C := Lib.hid (fun w => coded_no s k w hms h3 hc)
        have HQ := Lib.hid (none_map HR.out (bodyAt_none hl g34 hsg))
        clear hc hsg g92 g34 h92
        go_wp2_with (go_at_call 181; refine (C.out _).mono ?_; rintro e w1 ⟨n, rfl, rfl⟩)
        simp only [Exit.jumps]
        go_ret3
        exact .inl ⟨HQ.out, rfl, hbw⟩
      | some x =>
        rw [hc] at hsg
        have C := Lib.hid (fun w => coded_yes s k w hms h3 hc)
        have HN := Lib.hid (fun v' w2 => next_map (v' := v') (w2 := w2) (n := 2) HR.out hk (by omega) hsg)
        clear hc hsg g92 g34 h92
        go_wp2_with (first | (go_at_call 181; refine (C.out _).mono ?_; rintro e w1 ⟨rfl, rfl⟩) | (at_builtin; go_must (refine wpList_append_one rfl (.tmp 50) (.tmp 52) _ rfl w.heap.size 5 i0 _ 1 Tryz.underlying133 hi0 hz0 hz1 hz2 rfl 5 (.int .u8 (x.toNat : Int)) rfl v T.length (cellsOf T) rfl hown.out rfl (by simp only [maxLen]; omega) (by omega) hbw.size ?_; intro v1 w1 ho1 hb1)))
        go_step3
        refine ⟨⟨_, _, _, _, _, _, _, _, _, _, _, _, _, _, _, _, _, _, _, _, _, _, _, _, _, _, _, _, _, _, _, _, _, _, _, _, _, _, _, _, _, _, _, _, _, _, _, _, _, _, _, _, _, _, rfl, HN.out v1 w1 (by omega) ho1 hb1⟩, ?_⟩
        show 3 * (s.size - (intOf (Value.int .i64 ((k : Int) + 3))).toNat) + 2 < 3 * (s.size - (intOf (Value.int .i64 (k : Int))).toNat) + 1
        simp only [intOf]
        omega
    · have C := Lib.hid (fun w => coded_short s k w hms hk (by omega))
      have HQ := Lib.hid (none_map HR.out (bodyAt_none hl g34 (sign_short hl g92 (by simp; omega))))
      clear g92 g34 h92
      go_wp2_with (go_at_call 181; refine (C.out _).mono ?_; rintro e w1 ⟨rfl, rfl⟩)
      simp only [Exit.jumps]
      go_ret3
      exact .inl ⟨HQ.out, rfl, hbw⟩
  · intro HL
    go_wp2
    go_step3
    refine (‹∀ (a : Act) (w : World), Code.wp _ _ _ a w → _› : _) _ _ (HL.out _ _ ?_)
    refine ⟨k0 + 1, [], .slice none 0 0, _, _, _, _, _, _, _, _, _, _, _, _, _, _, _, _, _, _, _, _, _, _, _, _, _, _, _, _, _, _, _, _, _, _, _, _, _, _, _, _, _, _, _, _, _, _, _, _, _, _, _, rfl, by omega, by simp, ⟨rfl, .inl ⟨rfl, rfl⟩⟩, Below.refl _ _, ?_⟩
    rw [quotedAt, dif_pos (by simpa using hk0), if_pos (by rw [get_data s k0 hk0]; exact hq)]
    simp
end Go.Proofs.YtmmffeldlhofiaaGreatDoor
end
section
namespace Go.Proofs.YtmmffeldlhofiaaGreatDoor
set_option maxRecDepth 10000
open Go.RowKit Punnet.Name
set_option linter.unusedVariables false

theorem quoted_no (s : ByteArray) (k0 : Nat) (w : World) (hs : s.size ≤ 16777216) (h : ∀ hk : k0 < s.size, s[k0].toNat ≠ 34) :
    Calls Tryz.prog 157 #[.string s, .int .i64 (k0 : Int)] w (Quoted s k0 w) := by
  have hq : quotedAt s.data.toList k0 = none := by
    unfold quotedAt
    split
    · rename_i hk
      have hk' : k0 < s.size := by simpa using hk
      rw [if_neg (by rw [get_data s k0 hk']; exact h hk')]
    · rfl
  have HQ := Lib.hid hq
  clear hq
  by_cases hk : k0 < s.size
  · have hk' : ¬ (s.size : Int) ≤ k0 := by omega
    have h1 := h hk
    have b34 : ((s[k0].toNat : Int) != 34) = true := by rw [bne_iff_ne]; omega
    clear h h1
    go_enter Tryz.func157, Tryz.ntmps157
    go_wp2
    go_step3
    go_wp2
    rw [Exit.noGoto_ret]
    go_ret3
    exact .inl ⟨HQ.out, rfl, Below.refl _ _⟩
  · have hk' : (s.size : Int) ≤ k0 := by omega
    clear h
    go_enter Tryz.func157, Tryz.ntmps157
    go_wp2
    go_step3
    go_wp2
    rw [Exit.noGoto_ret]
    go_ret3
    exact .inl ⟨HQ.out, rfl, Below.refl _ _⟩

/-- name.quoted, at any place. -/
theorem quoted_any (s : ByteArray) (k0 : Nat) (w : World) (hs : s.size ≤ 16777216) :
    Calls Tryz.prog 157 #[.string s, .int .i64 (k0 : Int)] w (Quoted s k0 w) := by
  by_cases h : ∃ hk : k0 < s.size, s[k0].toNat = 34
  · obtain ⟨hk, h34⟩ := h
    exact quoted_go s k0 w hs hk h34
  · exact quoted_no s k0 w hs fun hk h34 => h ⟨hk, h34⟩

/-- The place where the word ends that begins at a place. -/
def blankAt (l : List UInt8) (k : Nat) : Nat := k + ((l.drop k).takeWhile fun b => decide (b.toNat ≠ 32)).length
def wordEndOf (l : List UInt8) (k : Nat) : Nat := match quotedAt l k with
  | some (_, e) => if e = l.length ∨ l[e]? = some 32 then e else blankAt l k
  | none => blankAt l k

theorem blankAt_eq {l : List UInt8} {k e : Nat} (hk : k ≤ e) (he : e ≤ l.length) (ha : ∀ j (h : j < l.length), k ≤ j → j < e → l[j].toNat ≠ 32) (hs : ∀ h : e < l.length, l[e].toNat = 32) : blankAt l k = e := by
  have h : ∀ (n : Nat) (m : List UInt8), n ≤ m.length → (∀ j (h : j < m.length), j < n → m[j].toNat ≠ 32) → (∀ h : n < m.length, m[n].toNat = 32) → (m.takeWhile fun b => decide (b.toNat ≠ 32)).length = n := by
    intro n m
    induction m generalizing n with
    | nil => intro hn _ _; simp at hn; simp [hn]
    | cons b r ih =>
      intro hn ha hs
      cases n with
      | zero =>
        have hb : b.toNat = 32 := hs (by simp)
        rw [List.takeWhile_cons, if_neg (by simp [hb])]; rfl
      | succ n =>
        have hb : b.toNat ≠ 32 := ha 0 (by simp) (by omega)
        rw [List.takeWhile_cons, if_pos (by simp [hb]), List.length_cons, ih n (by simpa using hn) (fun j h hj => ha (j + 1) (by simpa using h) (by omega)) (fun h => hs (by simpa using h))]
  rw [blankAt, h (e - k) (l.drop k) (by rw [List.length_drop]; omega)]
  · omega
  · intro j hj hje
    rw [List.length_drop] at hj
    rw [List.getElem_drop]
    exact ha _ _ (by omega) (by omega)
  · intro hj
    rw [List.length_drop] at hj
    rw [List.getElem_drop]
    have := hs (by omega)
    rw [show l[k + (e - k)]'(by omega) = l[e]'(by omega) from by congr 1; omega]
    exact this

theorem blank_eq {s : ByteArray} {k j : Nat} (h1 : k ≤ j) (h2 : j ≤ s.size) (hd : ∀ x (h : x < s.size), k ≤ x → x < j → s[x].toNat ≠ 32) (hs : ∀ h : j < s.size, s[j].toNat = 32) : blankAt s.data.toList k = j := by
  have hlen : s.data.toList.length = s.size := by simp
  refine blankAt_eq h1 (by omega) (fun x h hk hx => ?_) (fun h => ?_)
  · rw [get_data s x (by omega)]; exact hd x _ hk hx
  · rw [get_data s j (by omega)]; exact hs _

set_option maxHeartbeats 1000000 in
theorem wordEnd_any (s : ByteArray) (k : Nat) (w : World) (hs : s.size ≤ 16777216) (hk : k ≤ s.size) :
    Calls Tryz.prog 135 #[.string s, .int .i64 (k : Int)] w fun e w' => e = .returned (.int .i64 (wordEndOf s.data.toList k : Int)) ∧ Below w.heap.size w w' := by
  have hml : s.size ≤ 9223372036854775807 := by omega
  go_enter Tryz.func135, Tryz.ntmps135
  go_wp2_with fail
  refine (quoted_any s k w hs).mono ?_
  rintro e w1 (⟨hq, rfl, hb1⟩ | ⟨t, n, v, hq, rfl, hown, hb1⟩)
  · have HW := Lib.hid (show wordEndOf s.data.toList k = blankAt s.data.toList k by unfold wordEndOf; rw [hq])
    clear hq
    go_wp2_with fail
    go_loop [6] (fun i => ∃ j : Nat, k ≤ j ∧ j ≤ s.size ∧ i = .int .i64 (j : Int) ∧ ∀ x (h : x < s.size), k ≤ x → x < j → s[x].toNat ≠ 32) (fun i => s.size - (intOf i).toNat)
    case atStart => exact ⟨k, Nat.le_refl _, hk, rfl, fun _ _ h1 h2 => absurd h1 (by omega)⟩
    case round =>
      obtain ⟨j, hj1, hj2, rfl, hd⟩ := hrel
      have HD := Lib.hid hd
      clear hd
      by_cases hlt : j < s.size
      · have hlt' : (j : Int) < s.size := by omega
        by_cases hb : s[j].toNat = 32
        · have b32 : ((s[j].toNat : Int) != 32) = false := by rw [bne_eq_false_iff_eq]; omega
          have HE := Lib.hid (show wordEndOf s.data.toList k = j by rw [HW.out]; exact blank_eq hj1 hj2 HD.out (fun _ => hb))
          clear hb
          go_wp2_with fail
          go_ret
          exact ⟨ret_i64 (by rw [HE.out]), hb1⟩
        · have b32 : ((s[j].toNat : Int) != 32) = true := by rw [bne_iff_ne]; omega
          have HD2 := Lib.hid (show ∀ x (h : x < s.size), k ≤ x → x < j + 1 → s[x].toNat ≠ 32 from fun x h h1 h2 => by
            by_cases e : x = j
            · subst e; exact hb
            · exact HD.out x h h1 (by omega))
          clear hb
          go_wp2_with fail
          go_round
          case rel => exact ⟨j + 1, by omega, by omega, by go_num, HD2.out⟩
          case measure => simp [intOf]; omega
      · have hlt' : ¬ (j : Int) < s.size := by omega
        have HE := Lib.hid (show wordEndOf s.data.toList k = j by rw [HW.out]; exact blank_eq hj1 hj2 HD.out (fun h => absurd h hlt))
        go_wp2_with fail
        go_ret
        exact ⟨ret_i64 (by rw [HE.out]), hb1⟩
  · have hle := quotedAt_le hq
    have hlen : s.data.toList.length = s.size := by simp
    have hn : n ≤ s.size := by omega
    have hwe : wordEndOf s.data.toList k = if n = s.size ∨ s.data.toList[n]? = some 32 then n else blankAt s.data.toList k := by unfold wordEndOf; rw [hq, hlen]
    clear hq hle hown hlen
    by_cases he : n = s.size
    · have HW := Lib.hid (show wordEndOf s.data.toList k = n by rw [hwe, if_pos (.inl he)])
      have b1 : ((n : Int) == (s.size : Int)) = true := beq_iff_eq.2 (by omega)
      clear he hwe
      go_wp2_with fail
      go_ret
      exact ⟨ret_i64 (by rw [HW.out]), hb1⟩
    · have b1 : ((n : Int) == (s.size : Int)) = false := beq_eq_false_iff_ne.2 (by omega)
      have hlt : n < s.size := by omega
      have hlt' : (n : Int) < s.size := by omega
      have hg : s.data.toList[n]? = some s[n] := by rw [List.getElem?_eq_getElem (by simpa using hlt), get_data s n hlt]
      by_cases hb : s[n].toNat = 32
      · have HW := Lib.hid (show wordEndOf s.data.toList k = n by
          rw [hwe, if_pos (.inr (by rw [hg]; congr 1; exact UInt8.toNat_inj.1 hb))])
        have b2 : ((s[n].toNat : Int) == 32) = true := beq_iff_eq.2 (by omega)
        clear he hwe hg hb
        go_wp2_with fail
        go_ret
        exact ⟨ret_i64 (by rw [HW.out]), hb1⟩
      · have HW := Lib.hid (show wordEndOf s.data.toList k = blankAt s.data.toList k by
          rw [hwe, if_neg]
          rintro (h | h)
          · exact he h
          · rw [hg] at h; injection h with h; exact hb (by rw [h]; rfl))
        have b2 : ((s[n].toNat : Int) == 32) = false := beq_eq_false_iff_ne.2 (by omega)
        clear he hwe hg hb
        go_wp2_with fail
        go_loop [6] (fun i => ∃ j : Nat, k ≤ j ∧ j ≤ s.size ∧ i = .int .i64 (j : Int) ∧ ∀ x (h : x < s.size), k ≤ x → x < j → s[x].toNat ≠ 32) (fun i => s.size - (intOf i).toNat)
        case atStart => exact ⟨k, Nat.le_refl _, hk, rfl, fun _ _ h1 h2 => absurd h1 (by omega)⟩
        case round =>
          obtain ⟨j, hj1, hj2, rfl, hd⟩ := hrel
          have HD := Lib.hid hd
          clear hd
          by_cases hlt3 : j < s.size
          · have hlt3' : (j : Int) < s.size := by omega
            by_cases hb : s[j].toNat = 32
            · have b32 : ((s[j].toNat : Int) != 32) = false := by rw [bne_eq_false_iff_eq]; omega
              have HE := Lib.hid (show wordEndOf s.data.toList k = j by rw [HW.out]; exact blank_eq hj1 hj2 HD.out (fun _ => hb))
              clear hb
              go_wp2_with fail
              go_ret
              exact ⟨ret_i64 (by rw [HE.out]), hb1⟩
            · have b32 : ((s[j].toNat : Int) != 32) = true := by rw [bne_iff_ne]; omega
              have HD2 := Lib.hid (show ∀ x (h : x < s.size), k ≤ x → x < j + 1 → s[x].toNat ≠ 32 from fun x h h1 h2 => by
                by_cases e : x = j
                · subst e; exact hb
                · exact HD.out x h h1 (by omega))
              clear hb
              go_wp2_with fail
              go_round
              case rel => exact ⟨j + 1, by omega, by omega, by go_num, HD2.out⟩
              case measure => simp [intOf]; omega
          · have hlt3' : ¬ (j : Int) < s.size := by omega
            have HE := Lib.hid (show wordEndOf s.data.toList k = j by rw [HW.out]; exact blank_eq hj1 hj2 HD.out (fun h => absurd h hlt3))
            go_wp2_with fail
            go_ret
            exact ⟨ret_i64 (by rw [HE.out]), hb1⟩

end Go.Proofs.YtmmffeldlhofiaaGreatDoor
end
section
namespace Go.Proofs.YtmmffeldlhofiaaGreatDoor
set_option maxRecDepth 10000
open Go.RowKit Punnet.Name
set_option linter.unusedVariables false

theorem takeWhile_le (p : UInt8 → Bool) (l : List UInt8) : (l.takeWhile p).length ≤ l.length := by
  induction l with
  | nil => simp
  | cons b r ih => rw [List.takeWhile_cons]; split <;> simp <;> omega
theorem blankAt_bound (l : List UInt8) {k : Nat} (hk : k ≤ l.length) : k ≤ blankAt l k ∧ blankAt l k ≤ l.length := by
  unfold blankAt
  have h := takeWhile_le (fun b => decide (b.toNat ≠ 32)) (l.drop k)
  rw [List.length_drop] at h
  omega
theorem wordEnd_bound (l : List UInt8) {k : Nat} (hk : k ≤ l.length) : k ≤ wordEndOf l k ∧ wordEndOf l k ≤ l.length := by
  have hb := blankAt_bound l hk
  unfold wordEndOf
  cases hq : quotedAt l k with
  | none => exact hb
  | some p =>
    obtain ⟨t, e⟩ := p
    have := quotedAt_le hq
    simp only
    split
    · omega
    · exact hb

/-- The words of a line from a place on. -/
def splitB (s : ByteArray) (k : Nat) : List ByteArray :=
  if h : k ≤ s.size ∧ wordEndOf s.data.toList k < s.size then
    s.extract k (wordEndOf s.data.toList k) :: splitB s (wordEndOf s.data.toList k + 1)
  else [s.extract k (wordEndOf s.data.toList k)]
  termination_by s.size - k
  decreasing_by
    have h1 : s.data.toList.length = s.size := by simp
    have := wordEnd_bound s.data.toList (k := k) (by omega)
    omega

theorem splitB_last {s : ByteArray} {k : Nat} (h : ¬ wordEndOf s.data.toList k < s.size) : splitB s k = [s.extract k (wordEndOf s.data.toList k)] := by rw [splitB, dif_neg (fun x => h x.2)]
theorem splitB_more {s : ByteArray} {k : Nat} (hk : k ≤ s.size) (h : wordEndOf s.data.toList k < s.size) : splitB s k = s.extract k (wordEndOf s.data.toList k) :: splitB s (wordEndOf s.data.toList k + 1) := by rw [splitB, dif_pos ⟨hk, h⟩]

theorem str_info : (Tryz.prog.info? 9).map (fun i => (i.zero, i.size, i.bytes)) = some (some (.string ⟨#[]⟩), 1, 16) := by kernel_rfl
/-- Texts as cells. -/
def strsOf (l : List ByteArray) : List Value := l.map Value.string
theorem strsOf_snoc (l : List ByteArray) (b : ByteArray) : strsOf (l ++ [b]) = strsOf l ++ [.string b] := by simp [strsOf]

/-- A slice of texts in new memory. -/
def Words (w : World) (l : List ByteArray) (e : Ending) (w' : World) : Prop :=
  ∃ v, e = .returned v ∧ w'.ownsRow w.heap.size 9 1 v l.length (strsOf l) ∧ Below w.heap.size w w'

/-- What holds of name.Split at the head of a round. -/
def SplitRel (s : ByteArray) (w : World) (k : Nat) (v : Value) (W : List ByteArray) (w' : World) : Prop :=
  w'.ownsRow w.heap.size 9 1 v W.length (strsOf W) ∧ Below w.heap.size w w' ∧ splitB s 0 = W ++ splitB s k

theorem SplitRel.more {s : ByteArray} {w : World} {k : Nat} {v v' : Value} {W : List ByteArray} {w1 w2 w3 : World} (h : SplitRel s w k v W w1) (hk : k ≤ s.size) (he : wordEndOf s.data.toList k < s.size) (hb : Below w1.heap.size w1 w2)
    (ho : w3.ownsRow w.heap.size 9 1 v' (W.length + 1) (strsOf W ++ [.string (s.extract k (wordEndOf s.data.toList k))])) (hb2 : Below w.heap.size w2 w3) : SplitRel s w (wordEndOf s.data.toList k + 1) v' (W ++ [s.extract k (wordEndOf s.data.toList k)]) w3 := by
  obtain ⟨h1, h2, h3⟩ := h
  refine ⟨by rw [strsOf_snoc, List.length_append, List.length_singleton]; exact ho, (h2.trans (hb.mono h2.size)).trans hb2, ?_⟩
  rw [h3, splitB_more hk he]; simp
theorem SplitRel.done {s : ByteArray} {w : World} {k : Nat} {v v' : Value} {W : List ByteArray} {w1 w2 w3 : World} (h : SplitRel s w k v W w1) (he : ¬ wordEndOf s.data.toList k < s.size) (hb : Below w1.heap.size w1 w2)
    (ho : w3.ownsRow w.heap.size 9 1 v' (W.length + 1) (strsOf W ++ [.string (s.extract k (wordEndOf s.data.toList k))])) (hb2 : Below w.heap.size w2 w3) : Words w (splitB s 0) (.returned v') w3 := by
  obtain ⟨h1, h2, h3⟩ := h
  rw [h3, splitB_last he]
  exact ⟨v', rfl, by rw [strsOf_snoc, List.length_append, List.length_singleton]; exact ho, (h2.trans (hb.mono h2.size)).trans hb2⟩

set_option maxHeartbeats 1000000 in
theorem split_any (s : ByteArray) (w : World) (hs : s.size ≤ 16777216) : Calls Tryz.prog 98 #[.string s] w (Words w (splitB s 0)) := by
  obtain ⟨i0, hi0, hz0, hz1, hz2⟩ := info_parts str_info
  have hlen : s.data.toList.length = s.size := by simp
  have hml : s.size ≤ 9223372036854775807 := by omega
  have HL := Lib.hid hlen
  clear hlen
  go_enter Tryz.func98, Tryz.ntmps98
  go_wp2_with fail
  go_loopw [3, 4] (fun v i wr => ∃ (k : Nat) (W : List ByteArray), i = .int .i64 (k : Int) ∧ k ≤ s.size ∧ W.length ≤ k ∧ SplitRel s w k v W wr) (fun _ i _ => s.size - (intOf i).toNat)
  case atStart => exact ⟨0, [], rfl, Nat.zero_le _, Nat.le_refl _, ⟨rfl, .inl ⟨rfl, rfl⟩⟩, Below.refl _ _, by simp⟩
  case round =>
    obtain ⟨k, W, rfl, hk, hW, hr⟩ := hrel
    obtain ⟨e1, e2⟩ := wordEnd_bound s.data.toList (k := k) (by have := HL.out; omega)
    have e3 : wordEndOf s.data.toList k ≤ s.size := by have := HL.out; omega
    have E := Lib.hid (fun w => wordEnd_any s k w hs hk)
    have hown := Lib.hid hr.1
    have hbw := hr.2.1
    have HM := Lib.hid (fun he v' w2 w3 => SplitRel.more (v' := v') (w2 := w2) (w3 := w3) hr hk he)
    have HE := Lib.hid (fun he v' w2 w3 => SplitRel.done (v' := v') (w2 := w2) (w3 := w3) hr he)
    clear hr e2
    generalize wordEndOf s.data.toList k = n at *
    have hn1 : (k : Int) ≤ n := by omega
    have hn2 : (n : Int) ≤ s.size := by omega
    by_cases he : n < s.size
    · have b1 : ((n : Int) == (s.size : Int)) = false := beq_eq_false_iff_ne.2 (by omega)
      have HM := Lib.hid (HM.out he)
      clear HE
      go_wp2_with (first | (go_at_call 135; refine (E.out _).mono ?_; rintro e w1 ⟨rfl, hb1⟩) | (at_builtin; go_must (refine wpList_append_one rfl (.tmp 9) (.tmp 14) _ rfl w.heap.size 9 i0 _ 16 Tryz.underlying26 hi0 hz0 hz1 hz2 rfl 9 (.string (s.extract k n)) rfl _ W.length (strsOf W) rfl (own_later hown.out hb1) rfl (by simp only [maxLen]; omega) (by omega) (Nat.le_trans hbw.size hb1.size) ?_; intro v1 w2 ho1 hb2)))
      go_roundw
      case rel => exact ⟨n + 1, W ++ [s.extract k n], by go_num, by omega, by simp; omega, HM.out v1 w1 w2 hb1 ho1 hb2⟩
      case measure => simp [intOf]; omega
    · have b1 : ((n : Int) == (s.size : Int)) = true := beq_iff_eq.2 (by omega)
      have HE := Lib.hid (HE.out he)
      clear HM
      go_wp2_with (first | (go_at_call 135; refine (E.out _).mono ?_; rintro e w1 ⟨rfl, hb1⟩) | (at_builtin; go_must (refine wpList_append_one rfl (.tmp 9) (.tmp 14) _ rfl w.heap.size 9 i0 _ 16 Tryz.underlying26 hi0 hz0 hz1 hz2 rfl 9 (.string (s.extract k n)) rfl _ W.length (strsOf W) rfl (own_later hown.out hb1) rfl (by simp only [maxLen]; omega) (by omega) (Nat.le_trans hbw.size hb1.size) ?_; intro v1 w2 ho1 hb2)))
      go_ret
      exact HE.out v1 w1 w2 hb1 ho1 hb2

end Go.Proofs.YtmmffeldlhofiaaGreatDoor
end
section
namespace Punnet.Name
set_option maxRecDepth 10000

/-- What stands for a byte in a quote. -/
def signOf (c : UInt8) : List UInt8 := if plainB c then [c] else [92, hexOf (c.toNat / 16), hexOf (c.toNat % 16)]

theorem hexD_hexOf {n : Nat} (h : n < 16) : hexD (hexOf n) = some n := by
  unfold hexD hexOf
  by_cases h1 : n < 10
  · rw [if_pos h1, UInt8.toNat_ofNat', Nat.mod_eq_of_lt (by omega), if_pos (by omega)]
    congr 1
    omega
  · rw [if_neg h1, UInt8.toNat_ofNat', Nat.mod_eq_of_lt (by omega), if_neg (by omega), if_pos (by omega)]
    congr 1
    omega
theorem hexOf_hexD {c : UInt8} {n : Nat} (h : hexD c = some n) : hexOf n = c ∧ n < 16 := by
  unfold hexD at h
  split at h
  · injection h with h
    refine ⟨?_, by omega⟩
    unfold hexOf
    apply UInt8.toNat_inj.1
    rw [if_pos (by omega), UInt8.toNat_ofNat']; omega
  · split at h
    · injection h with h
      refine ⟨?_, by omega⟩
      unfold hexOf
      apply UInt8.toNat_inj.1
      rw [if_neg (by omega), UInt8.toNat_ofNat']; omega
    · cases h

theorem code2_of {c : UInt8} (h : plainB c = false) : code2 (hexOf (c.toNat / 16)) (hexOf (c.toNat % 16)) = some c := by
  have hc := c.toNat_lt
  unfold code2
  rw [hexD_hexOf (by omega), hexD_hexOf (by omega)]
  simp only
  have e : UInt8.ofNat (16 * (c.toNat / 16) + c.toNat % 16) = c := by
    rw [Nat.div_add_mod]; simp
  rw [e, h]
  rfl
theorem code2_inv {a b c : UInt8} (h : code2 a b = some c) : plainB c = false ∧ a = hexOf (c.toNat / 16) ∧ b = hexOf (c.toNat % 16) := by
  unfold code2 at h
  cases h1 : hexD a with
  | none => rw [h1] at h; cases h
  | some x =>
    cases h2 : hexD b with
    | none => rw [h1, h2] at h; cases h
    | some y =>
      rw [h1, h2] at h
      simp only at h
      split at h
      · cases h
      · rename_i hp
        injection h with h
        obtain ⟨e1, l1⟩ := hexOf_hexD h1
        obtain ⟨e2, l2⟩ := hexOf_hexD h2
        have hx : c.toNat = 16 * x + y := by rw [← h, UInt8.toNat_ofNat']; omega
        refine ⟨by rw [← h]; simpa using hp, ?_, ?_⟩
        · rw [hx, show (16 * x + y) / 16 = x by omega, e1]
        · rw [hx, show (16 * x + y) % 16 = y by omega, e2]

theorem plain_ne {c : UInt8} (h : plainB c = true) : c.toNat ≠ 92 ∧ c.toNat ≠ 34 := by
  unfold plainB at h
  simp only [Bool.and_eq_true, decide_eq_true_iff] at h
  exact ⟨h.2, h.1.2⟩

theorem sign_signOf (c : UInt8) (r : List UInt8) : sign (signOf c ++ r) = some (c, (signOf c).length - 1) := by
  unfold signOf
  cases hp : plainB c with
  | true =>
    rw [if_pos rfl]
    show sign (c :: r) = _
    rw [sign, if_neg (plain_ne hp).1, if_pos hp]; rfl
  | false =>
    rw [if_neg (by decide)]
    show sign (92 :: hexOf (c.toNat / 16) :: hexOf (c.toNat % 16) :: r) = _
    rw [sign, if_pos (show (92 : UInt8).toNat = 92 from rfl), coded, code2_of hp]; rfl
theorem sign_inv {m : List UInt8} {c : UInt8} {n : Nat} (h : sign m = some (c, n)) : ∃ r, m = signOf c ++ r ∧ n + 1 = (signOf c).length := by
  match m, h with
  | [], h => cases h
  | x :: r, h =>
    rw [sign] at h
    split at h
    · rename_i h92
      have e92 : x = 92 := UInt8.toNat_inj.1 h92
      subst e92
      match r, h with
      | [], h => cases h
      | [_], h => cases h
      | a :: b :: r', h =>
        rw [coded] at h
        cases hc : code2 a b with
        | none => rw [hc] at h; cases h
        | some y =>
          rw [hc] at h
          injection h with h
          injection h with h1 h2
          subst h1 h2
          obtain ⟨hp, e1, e2⟩ := code2_inv hc
          refine ⟨r', ?_, ?_⟩
          · unfold signOf; rw [hp, if_neg (by decide), e1, e2]; rfl
          · unfold signOf; rw [hp, if_neg (by decide)]; rfl
    · split at h
      · rename_i hp
        injection h with h
        injection h with h1 h2
        subst h1 h2
        refine ⟨r, ?_, ?_⟩
        · unfold signOf; rw [hp, if_pos rfl]; rfl
        · unfold signOf; rw [hp, if_pos rfl]; rfl
      · cases h
theorem signOf_pos (c : UInt8) : 1 ≤ (signOf c).length ∧ (signOf c).length ≤ 3 := by
  unfold signOf; split <;> simp

end Punnet.Name
end
section
namespace Go.Proofs.YtmmffeldlhofiaaGreatDoor
set_option maxRecDepth 10000
open Go.RowKit Punnet.Name
set_option linter.unusedVariables false

theorem conv_byte (W : World) (d : UInt8) (z : Int) (hz : z = d.toNat) (t : TypeId) :
    (convert 133 9 (.slice (some ⟨W.heap.size, 0, none⟩) 1 1)).run Tryz.prog (W.alloc (.cells #[.int .u8 z] t)) = .ok (.string ⟨#[d]⟩) (W.alloc (.cells #[.int .u8 z] t)) := by
  subst hz
  refine run_convert_bytes_back _ 133 9 5 _ _ [d] Tryz.underlying133 Tryz.underlying5 Tryz.underlying9 fun j hj => ?_
  obtain rfl : j = 0 := by simpa using hj
  exact World.cell?_alloc_new _ _ _ _

theorem hex_any (n : Int) (h0 : 0 ≤ n) (h1 : n < 16) (w : World) : Calls Tryz.prog 146 #[.int .u8 n] w fun e w' => e = .returned (.string ⟨#[hexOf n.toNat]⟩) ∧ Below w.heap.size w w' := by
  by_cases h : n < 10
  · have hcv := fun W t => conv_byte W (hexOf n.toNat) (48 + n) (by unfold hexOf; rw [if_pos (by omega), UInt8.toNat_ofNat']; omega) t
    generalize hexOf n.toNat = d at *
    go_enter Tryz.func146, Tryz.ntmps146
    go_wp2
    go_ret
    exact ⟨rfl, (Below.refl _ _).alloc (Nat.le_refl _) _⟩
  · have hcv := fun W t => conv_byte W (hexOf n.toNat) (87 + n) (by unfold hexOf; rw [if_neg (by omega), UInt8.toNat_ofNat']; omega) t
    generalize hexOf n.toNat = d at *
    go_enter Tryz.func146, Tryz.ntmps146
    go_wp2
    go_ret
    exact ⟨rfl, (Below.refl _ _).alloc (Nat.le_refl _) _⟩

/-- What stands for a byte, as a text. -/
def byteB (c : UInt8) : ByteArray := ⟨(signOf c).toArray⟩
theorem byteB_data (c : UInt8) : (byteB c).data.toList = signOf c := by simp [byteB]
theorem byteB_size (c : UInt8) : (byteB c).size = (signOf c).length := by rw [← byteB_data]; simp

set_option maxHeartbeats 800000 in
theorem byte_any (c : UInt8) (w : World) : Calls Tryz.prog 119 #[.int .u8 (c.toNat : Int)] w fun e w' => e = .returned (.string (byteB c)) ∧ Below w.heap.size w w' := by
  have hc := c.toNat_lt
  have H := Lib.hid (show plainB c = (decide (32 ≤ c.toNat) && decide (c.toNat ≤ 126) && decide (c.toNat ≠ 34) && decide (c.toNat ≠ 92)) from rfl)
  cases hp : plainB c with
  | true =>
    have HB := Lib.hid (show byteB c = ⟨#[c]⟩ by unfold byteB signOf; rw [hp]; rfl)
    rw [H.out] at hp
    simp only [Bool.and_eq_true, decide_eq_true_iff] at hp
    obtain ⟨⟨⟨h1, h2⟩, h3⟩, h4⟩ := hp
    have b3 : ((c.toNat : Int) == 34) = false := beq_eq_false_iff_ne.2 (by omega)
    have b4 : ((c.toNat : Int) == 92) = false := beq_eq_false_iff_ne.2 (by omega)
    have hcv := fun W t => conv_byte W c (c.toNat : Int) rfl t
    clear H h3 h4
    go_enter Tryz.func119, Tryz.ntmps119
    go_wp2_with fail
    go_ret
    exact ⟨by rw [HB.out]; rfl, (Below.refl _ _).alloc (Nat.le_refl _) _⟩
  | false =>
    have HB := Lib.hid (show byteB c = ⟨#[92]⟩ ++ ⟨#[hexOf (c.toNat / 16)]⟩ ++ ⟨#[hexOf (c.toNat % 16)]⟩ by unfold byteB signOf; rw [hp]; rfl)
    have X1 := Lib.hid (hex_any ((c.toNat : Int) / 16) (by omega) (by omega))
    have X2 := Lib.hid (hex_any ((c.toNat : Int) % 16) (by omega) (by omega))
    rw [show ((c.toNat : Int) / 16).toNat = c.toNat / 16 by omega] at X1
    rw [show ((c.toNat : Int) % 16).toNat = c.toNat % 16 by omega] at X2
    have key : c.toNat < 32 ∨ (32 ≤ c.toNat ∧ 126 < c.toNat) ∨ (32 ≤ c.toNat ∧ c.toNat ≤ 126 ∧ ((c.toNat : Int) == 34) = true) ∨ (32 ≤ c.toNat ∧ c.toNat ≤ 126 ∧ ((c.toNat : Int) == 34) = false ∧ ((c.toNat : Int) == 92) = true) := by
      rw [H.out] at hp
      by_cases h1 : 32 ≤ c.toNat
      · by_cases h2 : c.toNat ≤ 126
        · by_cases h3 : c.toNat = 34
          · right; right; left; exact ⟨h1, h2, beq_iff_eq.2 (by omega)⟩
          · right; right; right
            refine ⟨h1, h2, beq_eq_false_iff_ne.2 (by omega), beq_iff_eq.2 ?_⟩
            by_cases h4 : c.toNat = 92
            · omega
            · simp [h1, h2, h3, h4] at hp
        · right; left; omega
      · left; omega
    clear H hp
    generalize hexOf (c.toNat / 16) = d1 at *
    generalize hexOf (c.toNat % 16) = d2 at *
    rcases key with h | ⟨h, h'⟩ | ⟨h, h', h''⟩ | ⟨h, h', h'', h3⟩
    all_goals
      go_enter Tryz.func119, Tryz.ntmps119
      go_wp2_with fail
      refine (X1.out _).mono ?_
      rintro e w1 ⟨rfl, hb1⟩
      go_wp2_with fail
      refine (X2.out _).mono ?_
      rintro e w2 ⟨rfl, hb2⟩
      go_wp2_with fail
      go_ret
      exact ⟨by rw [HB.out]; rfl, below_two hb1 hb2⟩

end Go.Proofs.YtmmffeldlhofiaaGreatDoor
end
section
namespace Go.Proofs.YtmmffeldlhofiaaGreatDoor
set_option maxRecDepth 10000
open Go.RowKit Punnet.Name
set_option linter.unusedVariables false

theorem byteN_any (n : Nat) (h : n < 256) (w : World) : Calls Tryz.prog 119 #[.int .u8 (n : Int)] w fun e w' => e = .returned (.string (byteB (UInt8.ofNat n))) ∧ Below w.heap.size w w' := by
  have := byte_any (UInt8.ofNat n) w
  rw [show ((UInt8.ofNat n).toNat : Int) = (n : Int) by rw [UInt8.toNat_ofNat']; omega] at this
  exact this

/-- Does what stands for a byte stand at a place? -/
theorem match_iff (s : ByteArray) (k : Nat) (hk : k < s.size) (x : UInt8) :
    (k + (byteB x).size ≤ s.size ∧ ((s.extract k (k + (byteB x).size)).toList == (byteB x).toList) = true) ↔ sign (s.data.toList.drop k) = some (x, (byteB x).size - 1) := by
  rw [byteB_size, Lib.toList_data, Lib.toList_data, Lib.extract_data, byteB_data, beq_iff_eq]
  have hlen : s.data.toList.length = s.size := by simp
  constructor
  · rintro ⟨h1, h2⟩
    have h3 : s.data.toList.drop k = signOf x ++ (s.data.toList.drop k).drop (signOf x).length := by
      conv => lhs; rw [← List.take_append_drop (signOf x).length (s.data.toList.drop k)]
      rw [show k + (signOf x).length - k = (signOf x).length by omega] at h2
      rw [h2]
    rw [h3]
    exact sign_signOf x _
  · intro h
    obtain ⟨r, h1, h2⟩ := sign_inv h
    have hl := congrArg List.length h1
    rw [List.length_drop, List.length_append] at hl
    refine ⟨by omega, ?_⟩
    rw [h1, show k + (signOf x).length - k = (signOf x).length by omega, List.take_left]

theorem signOf_le (c : UInt8) : (signOf c).length ≤ 3 := by unfold signOf; split <;> simp
theorem signOf_pos (c : UInt8) : 1 ≤ (signOf c).length := by unfold signOf; split <;> simp

theorem cat_one (T : List UInt8) (x : UInt8) : (⟨(T ++ [x]).toArray⟩ : ByteArray) = ⟨T.toArray⟩ ++ ⟨#[x]⟩ := by
  rw [ByteArray.ext_iff, ByteArray.data_append]; simp
theorem next_no {r : List UInt8} {C z : Nat} (hq : ∀ n, sign r = some (UInt8.ofNat C, n) → n = z) (hn : ∀ j < C, ∀ n, sign r ≠ some (UInt8.ofNat j, n)) (h : sign r ≠ some (UInt8.ofNat C, z)) : ∀ j < C + 1, ∀ n, sign r ≠ some (UInt8.ofNat j, n) := by
  intro j hj n he
  by_cases e : j = C
  · subst e
    obtain rfl := hq n he
    exact h he
  · exact hn j (by omega) n he

/-- What holds in the reference's Begins where it reads on at k, behind the text T. -/
def BRel (s : ByteArray) (k0 : Nat) (w : World) (k : Nat) (T : List UInt8) (w' : World) : Prop :=
  Below w.heap.size w w' ∧ quotedAt s.data.toList k0 = (bodyAt s.data.toList k).map fun p => (T ++ p.1, p.2)

/-- What it holds while the byte at k is looked for. -/
def CRel (s : ByteArray) (w : World) (k : Nat) (T : List UInt8) (a o f c : Value) (w' : World) : Prop :=
  Below w.heap.size w w' ∧ ∃ C : Nat, c = .int .i64 (C : Int) ∧ C ≤ 256 ∧
    ((a = .int .i64 (k : Int) ∧ o = .string ⟨T.toArray⟩ ∧ f = .bool false ∧ ∀ j < C, ∀ n, sign (s.data.toList.drop k) ≠ some (UInt8.ofNat j, n)) ∨
     ∃ (x : UInt8) (n : Nat), a = .int .i64 ((k + n + 1 : Nat) : Int) ∧ o = .string ⟨(T ++ [x]).toArray⟩ ∧ f = .bool true ∧ sign (s.data.toList.drop k) = some (x, n) ∧ k + n + 1 ≤ s.size)

/-- What the reference's Begins tells. -/
def Begun (s : ByteArray) (k0 : Nat) (w : World) (e : Ending) (w' : World) : Prop :=
  Below w.heap.size w w' ∧ ((quotedAt s.data.toList k0 = none ∧ e = .returned (.tuple #[.string ⟨#[]⟩, .int .i64 0, .bool false])) ∨
  ∃ (t : List UInt8) (n : Nat), quotedAt s.data.toList k0 = some (t, n) ∧ e = .returned (.tuple #[.string ⟨t.toArray⟩, .int .i64 (n : Int), .bool true]))

set_option maxHeartbeats 2000000 in
theorem begins_go (s : ByteArray) (k0 : Nat) (w : World) (hs : s.size ≤ 16777216) (hk0 : k0 < s.size) (hq : s[k0].toNat = 34) :
    Calls Tryz.prog 100 #[.string s, .int .i64 (k0 : Int)] w (Begun s k0 w) := by
  have hk0' : ¬ (s.size : Int) ≤ k0 := by omega
  have b34 : ((s[k0].toNat : Int) != 34) = false := by rw [bne_eq_false_iff_eq]; omega
  have hml : s.size ≤ 9223372036854775807 := by omega
  have hstart : quotedAt s.data.toList k0 = bodyAt s.data.toList (k0 + 1) := by
    rw [quotedAt, dif_pos (by simpa using hk0), if_pos (by rw [get_data s k0 hk0]; exact hq)]
  have HS := Lib.hid hstart
  clear hq hstart
  go_enter Tryz.func100, Tryz.ntmps100
  go_wp2_with fail
  go_loopw [1, 7] (fun a o wr => ∃ (k : Nat) (T : List UInt8), a = .int .i64 (k : Int) ∧ o = .string ⟨T.toArray⟩ ∧ k ≤ s.size ∧ T.length ≤ k ∧ BRel s k0 w k T wr) (fun a _ _ => s.size - (intOf a).toNat)
  case atStart => exact ⟨k0 + 1, [], by go_num, rfl, by omega, by simp, Below.refl _ _, by rw [HS.out]; simp⟩
  case round =>
    obtain ⟨k, T, rfl, rfl, hk, hT, hr⟩ := hrel
    obtain ⟨wo, rfl⟩ : ∃ wo : World, wo = wr := ⟨_, rfl⟩
    have hbw := hr.1
    have HB := Lib.hid hr.2
    clear hr hk0' b34
    by_cases hlt : k < s.size
    · have hlt' : (k : Int) < s.size := by omega
      have hl : k < s.data.toList.length := by simpa using hlt
      by_cases h34 : s[k].toNat = 34
      · have b1 : ((s[k].toNat : Int) == 34) = true := beq_iff_eq.2 (by omega)
        have HE := Lib.hid (show quotedAt s.data.toList k0 = some (T, k + 1) by rw [HB.out, bodyAt_end hl (by rw [get_data s k hlt]; exact h34)]; simp)
        clear h34
        go_wp2_with fail
        go_ret3
        exact ⟨hbw, .inr ⟨T, k + 1, HE.out, rfl⟩⟩
      · have b1 : ((s[k].toNat : Int) == 34) = false := beq_eq_false_iff_ne.2 (by omega)
        have g34 : s.data.toList[k].toNat ≠ 34 := by rw [get_data s k hlt]; exact h34
        have HNO := Lib.hid (fun h => show quotedAt s.data.toList k0 = none by rw [HB.out, bodyAt_none hl g34 h]; rfl)
        have HYES := Lib.hid (fun x n (h : sign (s.data.toList.drop k) = some (x, n)) => show quotedAt s.data.toList k0 = (bodyAt s.data.toList (k + n + 1)).map fun p => (T ++ [x] ++ p.1, p.2) by
          rw [HB.out, bodyAt_some hl g34 h]
          cases bodyAt s.data.toList (k + n + 1) with
          | none => rfl
          | some p => simp)
        clear h34 g34 HB
        go_wp2_with fail
        go_loopw [1, 7, 8, 9] (fun a o f c wr => CRel s w k T a o f c wr) (fun _ _ _ c _ => 257 - (intOf c).toNat)
        case atStart => exact ⟨hbw, 0, rfl, by omega, .inl ⟨rfl, rfl, rfl, fun j hj => absurd hj (by omega)⟩⟩
        case round =>
          obtain ⟨hbc, C, rfl, hC, h⟩ := hrel
          rcases h with ⟨rfl, rfl, rfl, hn⟩ | ⟨x, n, rfl, rfl, rfl, hx, hle⟩
          · by_cases hc : C < 256
            · have hc' : (C : Int) < 256 := by omega
              have XB := Lib.hid (byteN_any C hc)
              have hcv := fun W t => conv_byte W (UInt8.ofNat C) (C : Int) (by rw [UInt8.toNat_ofNat']; omega) t
              have hm := match_iff s k hlt (UInt8.ofNat C)
              have hz1 : (byteB (UInt8.ofNat C)).size ≤ 3 := by rw [byteB_size]; exact signOf_le _
              have hz0 : 1 ≤ (byteB (UInt8.ofNat C)).size := by rw [byteB_size]; exact signOf_pos _
              have HQ : ∀ n, sign (s.data.toList.drop k) = some (UInt8.ofNat C, n) → n = (byteB (UInt8.ofNat C)).size - 1 := fun n h => by rw [byteB_size]; obtain ⟨r, h1, h2⟩ := sign_inv h; omega
              generalize byteB (UInt8.ofNat C) = q at *
              have HN := Lib.hid hn
              clear hn
              by_cases h1 : k + q.size ≤ s.size
              · have h1' : (k : Int) + q.size ≤ s.size := by omega
                cases h2 : ((s.extract k (k + q.size)).toList == q.toList) with
                | true =>
                  have HM := Lib.hid (hm.1 ⟨h1, h2⟩)
                  clear hm HQ
                  go_wp2_with (go_at_call 119; refine (XB.out _).mono ?_; rintro e w1 ⟨rfl, hb1⟩)
                  go_roundw
                  case rel =>
                    refine ⟨?_, C + 1, by go_num, by omega, .inr ⟨UInt8.ofNat C, q.size - 1, ?_, ?_, rfl, HM.out, by omega⟩⟩
                    · exact (hbc.trans (hb1.mono hbc.size)).alloc (Nat.le_trans hbc.size hb1.size) _
                    · congr 1; omega
                    · rw [cat_one]
                  case measure => simp [intOf]; omega
                | false =>
                  have HM := Lib.hid (next_no HQ HN.out fun h => by rw [(hm.2 h).2] at h2; cases h2)
                  clear hm HQ
                  go_wp2_with (go_at_call 119; refine (XB.out _).mono ?_; rintro e w1 ⟨rfl, hb1⟩)
                  go_roundw
                  case rel => exact ⟨hbc.trans (hb1.mono hbc.size), C + 1, by go_num, by omega, .inl ⟨rfl, rfl, rfl, HM.out⟩⟩
                  case measure => simp [intOf]; omega
              · have h1' : ¬ (k : Int) + q.size ≤ s.size := by omega
                have HM := Lib.hid (next_no HQ HN.out fun h => h1 (hm.2 h).1)
                clear hm HQ h1 HNO HYES
                have b2 : decide ((k : Int) + (q.size : Int) ≤ (s.size : Int)) = false := decide_eq_false h1'
                clear h1'
                go_wp2_with (go_at_call 119; refine (XB.out _).mono ?_; rintro e w1 ⟨rfl, hb1⟩)
                go_roundw
                case rel => exact ⟨hbc.trans (hb1.mono hbc.size), C + 1, by go_num, by omega, .inl ⟨rfl, rfl, rfl, HM.out⟩⟩
                case measure => simp [intOf]; omega
            · have hc' : ¬ (C : Int) < 256 := by omega
              have hC2 : 256 ≤ C := by omega
              have HE := Lib.hid (HNO.out (by
                cases h : sign (s.data.toList.drop k) with
                | none => rfl
                | some p => obtain ⟨x, n⟩ := p; exact absurd (by rw [h, UInt8.ofNat_toNat]) (hn x.toNat (by have := x.toNat_lt; omega) n)))
              clear hn
              go_wp2_with fail
              go_ret3
              exact ⟨hbc, .inl ⟨HE.out, rfl⟩⟩
          · have HY := Lib.hid (HYES.out x n hx)
            by_cases hc : C < 256
            · have hc' : (C : Int) < 256 := by omega
              go_wp2_with fail
              go_roundw
              case rel => exact ⟨k + n + 1, T ++ [x], rfl, rfl, hle, by simp; omega, hbc, HY.out⟩
              case measure => simp [intOf]; omega
            · have hc' : ¬ (C : Int) < 256 := by omega
              go_wp2_with fail
              go_roundw
              case rel => exact ⟨k + n + 1, T ++ [x], rfl, rfl, hle, by simp; omega, hbc, HY.out⟩
              case measure => simp [intOf]; omega
    · have hlt' : ¬ (k : Int) < s.size := by omega
      have HE := Lib.hid (show quotedAt s.data.toList k0 = none by rw [HB.out, bodyAt_out (by simpa using hlt)]; rfl)
      go_wp2_with fail
      go_ret3
      exact ⟨hbw, .inl ⟨HE.out, rfl⟩⟩

theorem begins_no (s : ByteArray) (k0 : Nat) (w : World) (hs : s.size ≤ 16777216) (h : ∀ hk : k0 < s.size, s[k0].toNat ≠ 34) :
    Calls Tryz.prog 100 #[.string s, .int .i64 (k0 : Int)] w (Begun s k0 w) := by
  have hq : quotedAt s.data.toList k0 = none := by
    unfold quotedAt
    split
    · rename_i hk
      have hk' : k0 < s.size := by simpa using hk
      rw [if_neg (by rw [get_data s k0 hk']; exact h hk')]
    · rfl
  have HQ := Lib.hid hq
  clear hq
  by_cases hk : k0 < s.size
  · have hk' : ¬ (s.size : Int) ≤ k0 := by omega
    have h1 := h hk
    have b34 : ((s[k0].toNat : Int) != 34) = true := by rw [bne_iff_ne]; omega
    clear h h1
    go_enter Tryz.func100, Tryz.ntmps100
    go_wp2_with fail
    go_ret3
    exact ⟨Below.refl _ _, .inl ⟨HQ.out, rfl⟩⟩
  · have hk' : (s.size : Int) ≤ k0 := by omega
    clear h
    go_enter Tryz.func100, Tryz.ntmps100
    go_wp2_with fail
    go_ret3
    exact ⟨Below.refl _ _, .inl ⟨HQ.out, rfl⟩⟩

/-- The reference's Begins, at any place. -/
theorem begins_any (s : ByteArray) (k0 : Nat) (w : World) (hs : s.size ≤ 16777216) :
    Calls Tryz.prog 100 #[.string s, .int .i64 (k0 : Int)] w (Begun s k0 w) := by
  by_cases h : ∃ hk : k0 < s.size, s[k0].toNat = 34
  · obtain ⟨hk, h34⟩ := h
    exact begins_go s k0 w hs hk h34
  · exact begins_no s k0 w hs fun hk h34 => h ⟨hk, h34⟩

end Go.Proofs.YtmmffeldlhofiaaGreatDoor
end
section
namespace Go.Proofs.YtmmffeldlhofiaaGreatDoor
set_option maxRecDepth 10000
open Go.RowKit Punnet.Name
set_option linter.unusedVariables false

set_option maxHeartbeats 4000000 in
theorem refSplit_any (s : ByteArray) (w : World) (hs : s.size ≤ 16777216) : Calls Tryz.prog 55 #[.string s] w (Words w (splitB s 0)) := by
  obtain ⟨i0, hi0, hz0, hz1, hz2⟩ := info_parts str_info
  have hlen : s.data.toList.length = s.size := by simp
  have hml : s.size ≤ 9223372036854775807 := by omega
  have HL := Lib.hid hlen
  clear hlen
  go_enter Tryz.func55, Tryz.ntmps55
  go_wp2_with fail
  go_loopw [3, 4] (fun v i wr => ∃ (k : Nat) (W : List ByteArray), i = .int .i64 (k : Int) ∧ k ≤ s.size ∧ W.length ≤ k ∧ SplitRel s w k v W wr) (fun _ i _ => s.size - (intOf i).toNat)
  case atStart => 
    refine ⟨0, [], rfl, Nat.zero_le _, Nat.le_refl _, ?_, ?_, by simp⟩
    · exact ⟨rfl, .inr ⟨w.heap.size, 0, #[], rfl, Nat.le_refl _, heap_alloc_new _ _, Nat.le_refl _, by simp [maxLen], rfl, rfl⟩⟩
    · exact (Below.refl _ _).alloc (Nat.le_refl _) _
  case round =>
    obtain ⟨k, W, rfl, hk, hW, hr⟩ := hrel
    have hown := Lib.hid hr.1
    have hbw := hr.2.1
    have HM := Lib.hid (fun he v' w2 w3 => SplitRel.more (v' := v') (w2 := w2) (w3 := w3) hr hk he)
    have HD := Lib.hid (fun he v' w2 w3 => SplitRel.done (v' := v') (w2 := w2) (w3 := w3) hr he)
    clear hr
    go_wp2_with fail
    refine (begins_any s k _ hs).mono ?_
    rintro e w1 ⟨hb1, ⟨hq, rfl⟩ | ⟨t, n, hq, rfl⟩⟩
    · have HW := Lib.hid (show wordEndOf s.data.toList k = blankAt s.data.toList k by unfold wordEndOf; rw [hq])
      clear hq
      go_wp2_with fail
      go_loop [6] (fun i => ∃ j : Nat, k ≤ j ∧ j ≤ s.size ∧ i = .int .i64 (j : Int) ∧ ∀ x (h : x < s.size), k ≤ x → x < j → s[x].toNat ≠ 32) (fun i => s.size - (intOf i).toNat)
      case atStart => exact ⟨k, Nat.le_refl _, hk, rfl, fun _ _ h1 h2 => absurd h1 (by omega)⟩
      case round =>
        obtain ⟨j, hj1, hj2, rfl, hd⟩ := hrel
        have HJ := Lib.hid hd
        clear hd
        have hj3 : (k : Int) ≤ j := by omega
        have hj4 : (j : Int) ≤ s.size := by omega
        by_cases hlt : j < s.size
        · have hlt' : (j : Int) < s.size := by omega
          by_cases hb : s[j].toNat = 32
          · have b32 : ((s[j].toNat : Int) != 32) = false := by rw [bne_eq_false_iff_eq]; omega
            have HE := Lib.hid (show wordEndOf s.data.toList k = j by rw [HW.out]; exact blank_eq hj1 hj2 HJ.out (fun _ => hb))
            have be : ((j : Int) == (s.size : Int)) = false := beq_eq_false_iff_ne.2 (by omega)
            clear hb HJ
            have HM2 := Lib.hid (HM.out (by rw [HE.out]; exact hlt))
            rw [HE.out] at HM2
            clear HM HD
            go_wp2_with (at_builtin; go_must (refine wpList_append_one rfl (.tmp 43) (.tmp 48) _ rfl w.heap.size 9 i0 _ 16 Tryz.underlying26 hi0 hz0 hz1 hz2 rfl 9 (.string (s.extract k j)) rfl _ W.length (strsOf W) rfl (own_later hown.out hb1) rfl (by simp only [maxLen]; omega) (by omega) (Nat.le_trans hbw.size hb1.size) ?_; intro v1 w2 ho1 hb2))
            go_roundw
            case rel => exact ⟨j + 1, W ++ [s.extract k j], by go_num, by omega, by simp; omega, HM2.out v1 w1 w2 hb1 ho1 hb2⟩
            case measure => simp [intOf]; omega
          · have b32 : ((s[j].toNat : Int) != 32) = true := by rw [bne_iff_ne]; omega
            have HD2 := Lib.hid (show ∀ x (h : x < s.size), k ≤ x → x < j + 1 → s[x].toNat ≠ 32 from fun x h h1 h2 => by
              by_cases e : x = j
              · subst e; exact hb
              · exact HJ.out x h h1 (by omega))
            clear hb
            go_wp2_with fail
            go_round
            case rel => exact ⟨j + 1, by omega, by omega, by go_num, HD2.out⟩
            case measure => simp [intOf]; omega
        · have hlt' : ¬ (j : Int) < s.size := by omega
          have HE := Lib.hid (show wordEndOf s.data.toList k = j by rw [HW.out]; exact blank_eq hj1 hj2 HJ.out (fun h => absurd h hlt))
          have be : ((j : Int) == (s.size : Int)) = true := beq_iff_eq.2 (by omega)
          clear HJ
          have HD2 := Lib.hid (HD.out (by rw [HE.out]; omega))
          rw [HE.out] at HD2
          clear HM HD
          go_wp2_with (at_builtin; go_must (refine wpList_append_one rfl (.tmp 43) (.tmp 48) _ rfl w.heap.size 9 i0 _ 16 Tryz.underlying26 hi0 hz0 hz1 hz2 rfl 9 (.string (s.extract k j)) rfl _ W.length (strsOf W) rfl (own_later hown.out hb1) rfl (by simp only [maxLen]; omega) (by omega) (Nat.le_trans hbw.size hb1.size) ?_; intro v1 w2 ho1 hb2))
          go_ret
          exact HD2.out v1 w1 w2 hb1 ho1 hb2
    · have hle := quotedAt_le hq
      have hlen := HL.out
      have hn : n ≤ s.size := by omega
      have hwe : wordEndOf s.data.toList k = if n = s.size ∨ s.data.toList[n]? = some 32 then n else blankAt s.data.toList k := by unfold wordEndOf; rw [hq, hlen]
      have hj1 : k ≤ n := by omega
      have hj3 : (k : Int) ≤ n := by omega
      have hj4 : (n : Int) ≤ s.size := by omega
      clear hq hle hlen
      by_cases he : n = s.size
      · have HE := Lib.hid (show wordEndOf s.data.toList k = n by rw [hwe, if_pos (.inl he)])
        have be : ((n : Int) == (s.size : Int)) = true := beq_iff_eq.2 (by omega)
        have hlt' : ¬ (n : Int) < s.size := by omega
        have hlt : ¬ n < s.size := by omega
        clear he hwe
        have HD2 := Lib.hid (HD.out (by rw [HE.out]; omega))
        rw [HE.out] at HD2
        clear HM HD
        go_wp2_with (at_builtin; go_must (refine wpList_append_one rfl (.tmp 43) (.tmp 48) _ rfl w.heap.size 9 i0 _ 16 Tryz.underlying26 hi0 hz0 hz1 hz2 rfl 9 (.string (s.extract k n)) rfl _ W.length (strsOf W) rfl (own_later hown.out hb1) rfl (by simp only [maxLen]; omega) (by omega) (Nat.le_trans hbw.size hb1.size) ?_; intro v1 w2 ho1 hb2))
        go_ret
        exact HD2.out v1 w1 w2 hb1 ho1 hb2
      · have be : ((n : Int) == (s.size : Int)) = false := beq_eq_false_iff_ne.2 (by omega)
        have hlt : n < s.size := by omega
        have hlt' : (n : Int) < s.size := by omega
        have hg : s.data.toList[n]? = some s[n] := by rw [List.getElem?_eq_getElem (by simpa using hlt), get_data s n hlt]
        by_cases hb : s[n].toNat = 32
        · have HE := Lib.hid (show wordEndOf s.data.toList k = n by
            rw [hwe, if_pos (.inr (by rw [hg]; congr 1; exact UInt8.toNat_inj.1 hb))])
          have b2 : ((s[n].toNat : Int) != 32) = false := by rw [bne_eq_false_iff_eq]; omega
          clear he hwe hg hb
          have HM2 := Lib.hid (HM.out (by rw [HE.out]; exact hlt))
          rw [HE.out] at HM2
          clear HM HD
          go_wp2_with (at_builtin; go_must (refine wpList_append_one rfl (.tmp 43) (.tmp 48) _ rfl w.heap.size 9 i0 _ 16 Tryz.underlying26 hi0 hz0 hz1 hz2 rfl 9 (.string (s.extract k n)) rfl _ W.length (strsOf W) rfl (own_later hown.out hb1) rfl (by simp only [maxLen]; omega) (by omega) (Nat.le_trans hbw.size hb1.size) ?_; intro v1 w2 ho1 hb2))
          go_roundw
          case rel => exact ⟨n + 1, W ++ [s.extract k n], by go_num, by omega, by simp; omega, HM2.out v1 w1 w2 hb1 ho1 hb2⟩
          case measure => simp [intOf]; omega
        · have HW := Lib.hid (show wordEndOf s.data.toList k = blankAt s.data.toList k by
            rw [hwe, if_neg]
            rintro (h | h)
            · exact he h
            · rw [hg] at h; injection h with h; exact hb (by rw [h]; rfl))
          have b2 : ((s[n].toNat : Int) != 32) = true := by rw [bne_iff_ne]; omega
          clear he hwe hg hb be
          go_wp2_with fail
          go_loop [6] (fun i => ∃ j : Nat, k ≤ j ∧ j ≤ s.size ∧ i = .int .i64 (j : Int) ∧ ∀ x (h : x < s.size), k ≤ x → x < j → s[x].toNat ≠ 32) (fun i => s.size - (intOf i).toNat)
          case atStart => exact ⟨k, Nat.le_refl _, hk, rfl, fun _ _ h1 h2 => absurd h1 (by omega)⟩
          case round =>
            obtain ⟨j, hj1, hj2, rfl, hd⟩ := hrel
            have HJ := Lib.hid hd
            clear hd
            have hj3 : (k : Int) ≤ j := by omega
            have hj4 : (j : Int) ≤ s.size := by omega
            by_cases hlt : j < s.size
            · have hlt' : (j : Int) < s.size := by omega
              by_cases hb : s[j].toNat = 32
              · have b32 : ((s[j].toNat : Int) != 32) = false := by rw [bne_eq_false_iff_eq]; omega
                have HE := Lib.hid (show wordEndOf s.data.toList k = j by rw [HW.out]; exact blank_eq hj1 hj2 HJ.out (fun _ => hb))
                have be : ((j : Int) == (s.size : Int)) = false := beq_eq_false_iff_ne.2 (by omega)
                clear hb HJ
                have HM2 := Lib.hid (HM.out (by rw [HE.out]; exact hlt))
                rw [HE.out] at HM2
                clear HM HD
                go_wp2_with (at_builtin; go_must (refine wpList_append_one rfl (.tmp 43) (.tmp 48) _ rfl w.heap.size 9 i0 _ 16 Tryz.underlying26 hi0 hz0 hz1 hz2 rfl 9 (.string (s.extract k j)) rfl _ W.length (strsOf W) rfl (own_later hown.out hb1) rfl (by simp only [maxLen]; omega) (by omega) (Nat.le_trans hbw.size hb1.size) ?_; intro v1 w2 ho1 hb2))
                go_roundw
                case rel => exact ⟨j + 1, W ++ [s.extract k j], by go_num, by omega, by simp; omega, HM2.out v1 w1 w2 hb1 ho1 hb2⟩
                case measure => simp [intOf]; omega
              · have b32 : ((s[j].toNat : Int) != 32) = true := by rw [bne_iff_ne]; omega
                have HD2 := Lib.hid (show ∀ x (h : x < s.size), k ≤ x → x < j + 1 → s[x].toNat ≠ 32 from fun x h h1 h2 => by
                  by_cases e : x = j
                  · subst e; exact hb
                  · exact HJ.out x h h1 (by omega))
                clear hb
                go_wp2_with fail
                go_round
                case rel => exact ⟨j + 1, by omega, by omega, by go_num, HD2.out⟩
                case measure => simp [intOf]; omega
            · have hlt' : ¬ (j : Int) < s.size := by omega
              have HE := Lib.hid (show wordEndOf s.data.toList k = j by rw [HW.out]; exact blank_eq hj1 hj2 HJ.out (fun h => absurd h hlt))
              have be : ((j : Int) == (s.size : Int)) = true := beq_iff_eq.2 (by omega)
              clear HJ
              have HD2 := Lib.hid (HD.out (by rw [HE.out]; omega))
              rw [HE.out] at HD2
              clear HM HD
              go_wp2_with (at_builtin; go_must (refine wpList_append_one rfl (.tmp 43) (.tmp 48) _ rfl w.heap.size 9 i0 _ 16 Tryz.underlying26 hi0 hz0 hz1 hz2 rfl 9 (.string (s.extract k j)) rfl _ W.length (strsOf W) rfl (own_later hown.out hb1) rfl (by simp only [maxLen]; omega) (by omega) (Nat.le_trans hbw.size hb1.size) ?_; intro v1 w2 ho1 hb2))
              go_ret
              exact HD2.out v1 w1 w2 hb1 ho1 hb2

end Go.Proofs.YtmmffeldlhofiaaGreatDoor
end
section
namespace Go.Proofs.YtmmffeldlhofiaaGreatDoor
set_option maxRecDepth 10000
open Go.RowKit Punnet.Name
set_option linter.unusedVariables false

end Go.Proofs.YtmmffeldlhofiaaGreatDoor
end
section
namespace Go.Proofs.YtmmffeldlhofiaaGreatDoor
set_option maxRecDepth 10000
open Go.RowKit Punnet.Name
set_option linter.unusedVariables false

/-- May a byte stand in a name at a place? -/
def okAt (c k : Nat) : Bool := decide (97 ≤ c ∧ c ≤ 122) || (decide (48 ≤ c ∧ c ≤ 57) && decide (k ≠ 0))
/-- May the bytes ahead of a place stand in a name? -/
def OkTo (s : ByteArray) (k : Nat) : Prop := ∀ j (h : j < s.size), j < k → okAt s[j].toNat j = true
/-- Is it a name? -/
def nameOk (s : ByteArray) : Bool := decide (1 ≤ s.size ∧ s.size ≤ 12) && (List.range s.size).all fun j => okAt (s.data.toList[j]?.getD 0).toNat j

theorem at_data {s : ByteArray} {j : Nat} (h : j < s.size) : s.data.toList[j]?.getD 0 = s[j] := by
  rw [List.getElem?_eq_getElem (by simpa using h), get_list s j h]; rfl
theorem ok_all {s : ByteArray} (h1 : 1 ≤ s.size) (h2 : s.size ≤ 12) (h : OkTo s s.size) : nameOk s = true := by
  unfold nameOk
  rw [Bool.and_eq_true, decide_eq_true_iff, List.all_eq_true]
  refine ⟨⟨h1, h2⟩, fun j hj => ?_⟩
  have hj := List.mem_range.1 hj
  rw [at_data hj]; exact h j hj hj
theorem ok_not {s : ByteArray} {j : Nat} (hj : j < s.size) (h : okAt s[j].toNat j = false) : nameOk s = false := by
  unfold nameOk
  rw [Bool.and_eq_false_iff]
  refine .inr (Bool.eq_false_iff.2 fun ha => ?_)
  have := List.all_eq_true.1 ha j (List.mem_range.2 hj)
  rw [at_data hj, h] at this; cases this
theorem ok_next {s : ByteArray} {k : Nat} (ho : OkTo s k) (hk : k < s.size) (h : okAt s[k].toNat k = true) : OkTo s (k + 1) := by
  intro j hj hjk
  by_cases e : j = k
  · subst e; exact h
  · exact ho j hj (by omega)


set_option maxHeartbeats 2000000 in
theorem name_any (s : ByteArray) (w : World) (hs : s.size ≤ 16777216) : Calls Tryz.prog 109 #[.string s] w fun e w' => e = .returned (.bool (nameOk s)) ∧ Below w.heap.size w w' := by
  have hml : s.size ≤ 9223372036854775807 := by omega
  by_cases h1 : s.size < 1
  · have h1' : (s.size : Int) < 1 := by omega
    have HE := Lib.hid (show nameOk s = false by unfold nameOk; simp; omega)
    go_enter Tryz.func109, Tryz.ntmps109
    go_wp2_with fail
    go_ret
    exact ⟨ret_bool HE.out.symm, Below.refl _ _⟩
  by_cases h2 : 12 < s.size
  · have h1' : ¬ (s.size : Int) < 1 := by omega
    have h2' : (12 : Int) < s.size := by omega
    have HE := Lib.hid (show nameOk s = false by unfold nameOk; simp; omega)
    go_enter Tryz.func109, Tryz.ntmps109
    go_wp2_with fail
    go_ret
    exact ⟨ret_bool HE.out.symm, Below.refl _ _⟩
  have h1' : ¬ (s.size : Int) < 1 := by omega
  have h2' : ¬ (12 : Int) < s.size := by omega
  go_enter Tryz.func109, Tryz.ntmps109
  go_wp2_with fail
  go_loop [16] (fun i => ∃ k : Nat, k ≤ s.size ∧ i = .int .i64 (k : Int) ∧ OkTo s k) (fun i => s.size - (intOf i).toNat)
  case atStart => exact ⟨0, by omega, rfl, fun j hj hh => absurd hh (by omega)⟩
  case round =>
    obtain ⟨k, hk, rfl, ho⟩ := hrel
    have HO := Lib.hid ho
    clear ho
    by_cases hlt : k < s.size
    · have hlt' : (k : Int) < s.size := by omega
      have hcl : (97 ≤ s[k].toNat ∧ s[k].toNat ≤ 122) ∨ 122 < s[k].toNat ∨ (57 < s[k].toNat ∧ s[k].toNat < 97) ∨ (48 ≤ s[k].toNat ∧ s[k].toNat ≤ 57 ∧ k = 0) ∨ (48 ≤ s[k].toNat ∧ s[k].toNat ≤ 57 ∧ k ≠ 0) ∨ s[k].toNat < 48 := by omega
      rcases hcl with hcl | hcl | hcl | hcl | hcl | hcl
      · have hh0 : 97 ≤ (s[k].toNat : Int) := by omega
        have hh1 : (s[k].toNat : Int) ≤ 122 := by omega
        have hh2 : 48 ≤ (s[k].toNat : Int) := by omega
        have hh3 : ¬ (s[k].toNat : Int) ≤ 57 := by omega
        have HO2 := Lib.hid (ok_next HO.out hlt (by simp only [okAt]; simp; omega))
        clear hcl
        go_wp2_with fail
        go_round
        case rel => exact ⟨k + 1, by omega, by go_num, HO2.out⟩
        case measure => simp [intOf]; omega
      · have hh0 : 97 ≤ (s[k].toNat : Int) := by omega
        have hh1 : ¬ (s[k].toNat : Int) ≤ 122 := by omega
        have hh2 : 48 ≤ (s[k].toNat : Int) := by omega
        have hh3 : ¬ (s[k].toNat : Int) ≤ 57 := by omega
        have HE := Lib.hid (show nameOk s = false from ok_not hlt (by simp only [okAt]; simp; omega))
        clear hcl
        go_wp2_with fail
        go_ret
        exact ⟨ret_bool HE.out.symm, Below.refl _ _⟩
      · have hh0 : ¬ 97 ≤ (s[k].toNat : Int) := by omega
        have hh1 : 48 ≤ (s[k].toNat : Int) := by omega
        have hh2 : ¬ (s[k].toNat : Int) ≤ 57 := by omega
        have HE := Lib.hid (show nameOk s = false from ok_not hlt (by simp only [okAt]; simp; omega))
        clear hcl
        go_wp2_with fail
        go_ret
        exact ⟨ret_bool HE.out.symm, Below.refl _ _⟩
      · have hh0 : ¬ 97 ≤ (s[k].toNat : Int) := by omega
        have hh1 : 48 ≤ (s[k].toNat : Int) := by omega
        have hh2 : (s[k].toNat : Int) ≤ 57 := by omega
        have hh3 : ((k : Int) == 0) = true := beq_iff_eq.2 (by omega)
        have HE := Lib.hid (show nameOk s = false from ok_not hlt (by simp only [okAt]; simp; omega))
        clear hcl
        go_wp2_with fail
        go_ret
        exact ⟨ret_bool HE.out.symm, Below.refl _ _⟩
      · have hh0 : ¬ 97 ≤ (s[k].toNat : Int) := by omega
        have hh1 : 48 ≤ (s[k].toNat : Int) := by omega
        have hh2 : (s[k].toNat : Int) ≤ 57 := by omega
        have hh3 : ((k : Int) == 0) = false := beq_eq_false_iff_ne.2 (by omega)
        have HO2 := Lib.hid (ok_next HO.out hlt (by simp only [okAt]; simp; omega))
        clear hcl
        go_wp2_with fail
        go_round
        case rel => exact ⟨k + 1, by omega, by go_num, HO2.out⟩
        case measure => simp [intOf]; omega
      · have hh0 : ¬ 97 ≤ (s[k].toNat : Int) := by omega
        have hh1 : ¬ 48 ≤ (s[k].toNat : Int) := by omega
        have HE := Lib.hid (show nameOk s = false from ok_not hlt (by simp only [okAt]; simp; omega))
        clear hcl
        go_wp2_with fail
        go_ret
        exact ⟨ret_bool HE.out.symm, Below.refl _ _⟩
    · have hlt' : ¬ (k : Int) < s.size := by omega
      have HE := Lib.hid (show nameOk s = true from ok_all (by omega) (by omega) (show OkTo s s.size by have := HO.out; rwa [show k = s.size by omega] at this))
      go_wp2_with fail
      go_ret
      exact ⟨ret_bool HE.out.symm, Below.refl _ _⟩


set_option maxHeartbeats 2000000 in
theorem refName_any (s : ByteArray) (w : World) (hs : s.size ≤ 16777216) : Calls Tryz.prog 64 #[.string s] w fun e w' => e = .returned (.bool (nameOk s)) ∧ Below w.heap.size w w' := by
  have hml : s.size ≤ 9223372036854775807 := by omega
  by_cases h1 : s.size < 1
  · have h1' : (s.size : Int) < 1 := by omega
    have HE := Lib.hid (show nameOk s = false by unfold nameOk; simp; omega)
    go_enter Tryz.func64, Tryz.ntmps64
    go_wp2_with fail
    go_ret
    exact ⟨ret_bool HE.out.symm, Below.refl _ _⟩
  by_cases h2 : 12 < s.size
  · have h1' : ¬ (s.size : Int) < 1 := by omega
    have h2' : (12 : Int) < s.size := by omega
    have HE := Lib.hid (show nameOk s = false by unfold nameOk; simp; omega)
    go_enter Tryz.func64, Tryz.ntmps64
    go_wp2_with fail
    go_ret
    exact ⟨ret_bool HE.out.symm, Below.refl _ _⟩
  have h1' : ¬ (s.size : Int) < 1 := by omega
  have h2' : ¬ (12 : Int) < s.size := by omega
  go_enter Tryz.func64, Tryz.ntmps64
  go_wp2_with fail
  go_loop [3] (fun i => ∃ k : Nat, k ≤ s.size ∧ i = .int .i64 (k : Int) ∧ OkTo s k) (fun i => s.size - (intOf i).toNat)
  case atStart => exact ⟨0, by omega, rfl, fun j hj hh => absurd hh (by omega)⟩
  case round =>
    obtain ⟨k, hk, rfl, ho⟩ := hrel
    have HO := Lib.hid ho
    clear ho
    by_cases hlt : k < s.size
    · have hlt' : (k : Int) < s.size := by omega
      have hcl : (97 ≤ s[k].toNat ∧ s[k].toNat ≤ 122) ∨ 122 < s[k].toNat ∨ (57 < s[k].toNat ∧ s[k].toNat < 97) ∨ (48 ≤ s[k].toNat ∧ s[k].toNat ≤ 57 ∧ k = 0) ∨ (48 ≤ s[k].toNat ∧ s[k].toNat ≤ 57 ∧ k ≠ 0) ∨ s[k].toNat < 48 := by omega
      rcases hcl with hcl | hcl | hcl | hcl | hcl | hcl
      · have hh0 : 97 ≤ (s[k].toNat : Int) := by omega
        have hh1 : (s[k].toNat : Int) ≤ 122 := by omega
        have hh2 : 48 ≤ (s[k].toNat : Int) := by omega
        have hh3 : ¬ (s[k].toNat : Int) ≤ 57 := by omega
        have HO2 := Lib.hid (ok_next HO.out hlt (by simp only [okAt]; simp; omega))
        clear hcl
        go_wp2_with fail
        go_round
        case rel => exact ⟨k + 1, by omega, by go_num, HO2.out⟩
        case measure => simp [intOf]; omega
      · have hh0 : 97 ≤ (s[k].toNat : Int) := by omega
        have hh1 : ¬ (s[k].toNat : Int) ≤ 122 := by omega
        have hh2 : 48 ≤ (s[k].toNat : Int) := by omega
        have hh3 : ¬ (s[k].toNat : Int) ≤ 57 := by omega
        have HE := Lib.hid (show nameOk s = false from ok_not hlt (by simp only [okAt]; simp; omega))
        clear hcl
        go_wp2_with fail
        go_ret
        exact ⟨ret_bool HE.out.symm, Below.refl _ _⟩
      · have hh0 : ¬ 97 ≤ (s[k].toNat : Int) := by omega
        have hh1 : 48 ≤ (s[k].toNat : Int) := by omega
        have hh2 : ¬ (s[k].toNat : Int) ≤ 57 := by omega
        have HE := Lib.hid (show nameOk s = false from ok_not hlt (by simp only [okAt]; simp; omega))
        clear hcl
        go_wp2_with fail
        go_ret
        exact ⟨ret_bool HE.out.symm, Below.refl _ _⟩
      · have hh0 : ¬ 97 ≤ (s[k].toNat : Int) := by omega
        have hh1 : 48 ≤ (s[k].toNat : Int) := by omega
        have hh2 : (s[k].toNat : Int) ≤ 57 := by omega
        have hh3 : ((k : Int) == 0) = true := beq_iff_eq.2 (by omega)
        have HE := Lib.hid (show nameOk s = false from ok_not hlt (by simp only [okAt]; simp; omega))
        clear hcl
        go_wp2_with fail
        go_ret
        exact ⟨ret_bool HE.out.symm, Below.refl _ _⟩
      · have hh0 : ¬ 97 ≤ (s[k].toNat : Int) := by omega
        have hh1 : 48 ≤ (s[k].toNat : Int) := by omega
        have hh2 : (s[k].toNat : Int) ≤ 57 := by omega
        have hh3 : ((k : Int) == 0) = false := beq_eq_false_iff_ne.2 (by omega)
        have HO2 := Lib.hid (ok_next HO.out hlt (by simp only [okAt]; simp; omega))
        clear hcl
        go_wp2_with fail
        go_round
        case rel => exact ⟨k + 1, by omega, by go_num, HO2.out⟩
        case measure => simp [intOf]; omega
      · have hh0 : ¬ 97 ≤ (s[k].toNat : Int) := by omega
        have hh1 : ¬ 48 ≤ (s[k].toNat : Int) := by omega
        have HE := Lib.hid (show nameOk s = false from ok_not hlt (by simp only [okAt]; simp; omega))
        clear hcl
        go_wp2_with fail
        go_ret
        exact ⟨ret_bool HE.out.symm, Below.refl _ _⟩
    · have hlt' : ¬ (k : Int) < s.size := by omega
      have HE := Lib.hid (show nameOk s = true from ok_all (by omega) (by omega) (show OkTo s s.size by have := HO.out; rwa [show k = s.size by omega] at this))
      go_wp2_with fail
      go_ret
      exact ⟨ret_bool HE.out.symm, Below.refl _ _⟩

end Go.Proofs.YtmmffeldlhofiaaGreatDoor
end
section
namespace Go.Proofs.YtmmffeldlhofiaaGreatDoor
set_option maxRecDepth 10000
open Go.RowKit
set_option linter.unusedVariables false

theorem text_any (s : ByteArray) (w : World) : Calls Tryz.prog 111 #[.string s] w fun e w' => e = .returned (.bool (decide (s.size ≤ 40))) ∧ w = w' := by
  go_enter Tryz.func111, Tryz.ntmps111
  go_wp2_with fail
  go_ret
  exact ⟨ret_bool (by rw [decide_eq_decide]; omega), rfl⟩
end Go.Proofs.YtmmffeldlhofiaaGreatDoor
end
section
namespace Go.Proofs.YtmmffeldlhofiaaGreatDoor
set_option maxRecDepth 10000
open Go.RowKit Punnet.Name
set_option linter.unusedVariables false

/-- A text's quote. -/
def quoteL (l : List UInt8) : List UInt8 := 34 :: (l.flatMap signOf ++ [34])
/-- A text's quote, up to a place. -/
def quoteTo (s : ByteArray) (k : Nat) : List UInt8 := 34 :: (s.data.toList.take k).flatMap signOf
theorem quoteTo_succ {s : ByteArray} {k : Nat} (h : k < s.size) : quoteTo s (k + 1) = quoteTo s k ++ signOf s[k] := by
  unfold quoteTo
  rw [List.take_succ_eq_append_getElem (by simpa using h), List.flatMap_append, get_data s k h]
  simp
theorem quoteTo_all {s : ByteArray} : quoteTo s s.size ++ [34] = quoteL s.data.toList := by
  unfold quoteTo quoteL
  rw [List.take_of_length_le (by simp)]; rfl
theorem quoteTo_len {s : ByteArray} {k : Nat} (h : k ≤ s.size) : (quoteTo s k).length ≤ 3 * k + 1 := by
  unfold quoteTo
  induction k with
  | zero => simp
  | succ k ih =>
    have h' : k < s.data.toList.length := by simp; omega
    rw [List.take_succ_eq_append_getElem h', List.flatMap_append]
    have := ih (by omega)
    have h3 := signOf_le (s.data.toList[k]'h')
    simp at this ⊢; simp at h3; omega

set_option maxHeartbeats 1000000 in
theorem refQuote_any (s : ByteArray) (w : World) (hs : s.size ≤ 16777216) : Calls Tryz.prog 69 #[.string s] w fun e w' => e = .returned (.string ⟨(quoteL s.data.toList).toArray⟩) ∧ Below w.heap.size w w' := by
  go_enter Tryz.func69, Tryz.ntmps69
  go_wp2_with fail
  go_loopw [3, 4] (fun q i wr => ∃ k : Nat, k ≤ s.size ∧ i = .int .i64 (k : Int) ∧ q = .string ⟨(quoteTo s k).toArray⟩ ∧ Below w.heap.size w wr) (fun _ i _ => s.size - (intOf i).toNat)
  case atStart => exact ⟨0, by omega, rfl, rfl, Below.refl _ _⟩
  case round =>
    obtain ⟨k, hk, rfl, rfl, hb⟩ := hrel
    by_cases hlt : k < s.size
    · have hlt' : (k : Int) < s.size := by omega
      have HC : Hid ((⟨(quoteTo s (k + 1)).toArray⟩ : ByteArray) = ⟨(quoteTo s k).toArray⟩ ++ byteB s[k]) := by
        show _ = _
        rw [quoteTo_succ hlt, ByteArray.ext_iff, ByteArray.data_append]; simp [byteB]
      have hz : (⟨(quoteTo s k).toArray⟩ : ByteArray).size ≤ 50331649 := by have := quoteTo_len (s := s) (k := k) (by omega); simp [ByteArray.size]; omega
      have hz3 : (byteB s[k]).size ≤ 3 := by rw [byteB_size]; exact signOf_le _
      generalize hq : (⟨(quoteTo s k).toArray⟩ : ByteArray) = q at *
      have HQ := Lib.hid hq
      clear hq
      go_wp2_with fail
      refine (byte_any _ _).mono ?_
      rintro e w1 ⟨rfl, hb1⟩
      go_wp2_with fail
      go_roundw
      case rel => exact ⟨k + 1, by omega, by go_num, by rw [HC.out], hb.trans (hb1.mono hb.size)⟩
      case measure => simp [intOf]; omega
    · have hlt' : ¬ (k : Int) < s.size := by omega
      have HC : Hid ((⟨(quoteL s.data.toList).toArray⟩ : ByteArray) = ⟨(quoteTo s k).toArray⟩ ++ ⟨#[34]⟩) := by
        show _ = _
        rw [← quoteTo_all, show k = s.size by omega, ByteArray.ext_iff, ByteArray.data_append]; simp
      have hz : (⟨(quoteTo s k).toArray⟩ : ByteArray).size ≤ 50331649 := by have := quoteTo_len (s := s) (k := k) (by omega); simp [ByteArray.size]; omega
      generalize hq : (⟨(quoteTo s k).toArray⟩ : ByteArray) = q at *
      have HQ := Lib.hid hq
      clear hq
      go_wp2_with fail
      go_ret
      exact ⟨congrArg Ending.returned (congrArg Value.string HC.out.symm), hb⟩
end Go.Proofs.YtmmffeldlhofiaaGreatDoor
end
section
namespace Go.Proofs.YtmmffeldlhofiaaGreatDoor
set_option maxRecDepth 10000
open Go.RowKit Punnet.Name
set_option linter.unusedVariables false

theorem digit_at (n : Nat) (h : n < 16) (i : Int) (hi : i = n) (W : World) : (Instr.index 9 (.string ⟨#[48, 49, 50, 51, 52, 53, 54, 55, 56, 57, 97, 98, 99, 100, 101, 102]⟩) (.int .u8 i)).run Tryz.prog W = .ok (.int .u8 ((hexOf n).toNat : Int)) W := by
  subst hi
  rw [run_index_string W 9 _ _ _ Tryz.underlying9, dif_pos ⟨by omega, by show (n : Int) < 16; omega⟩]
  have : ∀ n : Fin 16, ((⟨#[48, 49, 50, 51, 52, 53, 54, 55, 56, 57, 97, 98, 99, 100, 101, 102]⟩ : ByteArray)[n.val]'n.isLt) = hexOf n.val := by decide
  have h2 := this ⟨n, h⟩
  congr 2
  simp only [Int.toNat_natCast]
  rw [h2]

/-- A row of bytes as a text. -/
theorem conv_row {w : World} {base : Nat} {v : Value} {l : List UInt8} (h : w.ownsRow base 5 1 v l.length (cellsOf l)) : (convert 133 9 v).run Tryz.prog w = .ok (.string ⟨l.toArray⟩) w := by
  rcases h.2 with ⟨rfl, h0⟩ | ⟨g, cap, cur, rfl, hb, hg, h1, h2, h3, h4⟩
  · obtain rfl : l = [] := by simpa using h0
    rw [run_convert_bytes_string w 133 9 5 none 0 0 Tryz.underlying133 Tryz.underlying5 Tryz.underlying9]
    rfl
  · refine run_convert_bytes_back _ 133 9 5 _ _ l Tryz.underlying133 Tryz.underlying5 Tryz.underlying9 fun j hj => ?_
    have h5 : cur.toList[j]? = some (.int .u8 (l[j].toNat : Int)) := by
      have := congrArg (fun x => x[j]?) h4
      simp only [Nat.mul_one] at this
      rw [List.getElem?_take, if_pos hj] at this
      rw [this]; simp [cellsOf, hj]
    have hadd : (⟨g, 0, none⟩ : Addr).add j = ⟨g, j, none⟩ := by unfold Addr.add; split <;> simp_all
    rw [hadd]
    simp [World.cell?, hg]
    simpa using h5

/-- What holds of name.Quote at the head of a round. -/
def QuRel (s : ByteArray) (w : World) (k : Nat) (v : Value) (w' : World) : Prop :=
  w'.ownsRow w.heap.size 5 1 v (quoteTo s k).length (cellsOf (quoteTo s k)) ∧ Below w.heap.size w w'

set_option maxHeartbeats 1000000 in
theorem quote_go (s : ByteArray) (w : World) (hs : s.size ≤ 40) : Calls Tryz.prog 132 #[.string s] w fun e w' => e = .returned (.tuple #[.string ⟨(quoteL s.data.toList).toArray⟩, .int .i64 0]) ∧ Below w.heap.size w w' := by
  obtain ⟨i0, hi0, hz0, hz1, hz2⟩ := info_parts u8_info
  have T := Lib.hid (text_any s)
  have hd : decide (s.size ≤ 40) = true := by simp [hs]
  rw [hd] at T
  clear hd
  go_enter Tryz.func132, Tryz.ntmps132
  go_wp2_with fail
  refine (T.out _).mono ?_
  rintro e w1 ⟨rfl, rfl⟩
  go_wp2_with fail
  go_loopw [4, 12] (fun v i wr => ∃ k : Nat, k ≤ s.size ∧ i = .int .i64 (k : Int) ∧ QuRel s w k v wr) (fun _ i _ => s.size - (intOf i).toNat)
  case atStart => exact ⟨0, by omega, rfl, ⟨rfl, .inr ⟨w.heap.size, 1, #[.int .u8 34], rfl, Nat.le_refl _, heap_alloc_new w _, Nat.le_refl _, by decide, rfl, rfl⟩⟩, (Below.refl _ _).alloc (Nat.le_refl _) _⟩
  case round =>
    obtain ⟨k, hk, rfl, ho, hb⟩ := hrel
    have HO := Lib.hid ho
    clear ho
    have hlen := quoteTo_len (s := s) (k := k) hk
    by_cases hlt : k < s.size
    · have hlt' : (k : Int) < s.size := by omega
      have P := Lib.hid (plain_any s[k])
      have HS := Lib.hid (quoteTo_succ hlt)
      cases hp : plainB s[k] with
      | true =>
        rw [hp] at P
        have hsg : signOf s[k] = [s[k]] := by unfold signOf; rw [if_pos hp]
        rw [hsg] at HS
        clear hp hsg
        go_wp2_with fail
        refine (P.out _).mono ?_
        rintro e w1 ⟨rfl, rfl⟩
        go_wp2_with (at_builtin; go_must (refine wpList_append_one rfl (.tmp 19) (.tmp 23) _ rfl w.heap.size 5 i0 _ 1 Tryz.underlying133 hi0 hz0 hz1 hz2 rfl 5 (.int .u8 (s[k].toNat : Int)) rfl u4 (quoteTo s k).length (cellsOf (quoteTo s k)) rfl HO.out rfl (by simp only [maxLen]; omega) (by omega) hb.size ?_; intro v1 w1 ho1 hb1))
        go_roundw
        case rel => exact ⟨k + 1, by omega, by go_num, by rw [HS.out, cellsOf_snoc, List.length_append, List.length_singleton]; exact ho1, hb.trans hb1⟩
        case measure => simp [intOf]; omega
      | false =>
        rw [hp] at P
        have hsg : signOf s[k] = [92, hexOf (s[k].toNat / 16), hexOf (s[k].toNat % 16)] := by unfold signOf; rw [if_neg (by rw [hp]; decide)]
        rw [hsg] at HS
        have hc := (s[k]).toNat_lt
        have ha := u8_and15 (x := (s[k].toNat : Int)) (by omega) (by omega)
        have x1 := fun W => digit_at (s[k].toNat / 16) (by omega) ((s[k].toNat : Int) / 16) (by omega) W
        have x2 := fun W => digit_at (s[k].toNat % 16) (by omega) ((s[k].toNat : Int) % 16) (by omega) W
        clear hp hsg
        generalize hexOf (s[k].toNat / 16) = d1 at *
        generalize hexOf (s[k].toNat % 16) = d2 at *
        go_wp2_with fail
        refine (P.out _).mono ?_
        rintro e w1 ⟨rfl, rfl⟩
        go_wp2_with fail
        go_region_held3 (fun w' => True) (trivial)
          ((refine step_append_lies _ (by rfl) _ _ _ (by rfl) w.heap.size 5 i0 _ 1 1 Tryz.underlying133 hi0 hz0 hz1 hz2 rfl (by omega) u4 (quoteTo s k).length (cellsOf (quoteTo s k)) (by rfl) ((HO.out.alloc _).drew)
                ⟨wr.heap.size, 0, none⟩ 3 3 [.int .u8 92, .int .u8 (d1.toNat : Int), .int .u8 (d2.toNat : Int)] (by rfl) (by rfl) (World.news_of_block (cs := #[.int .u8 92, .int .u8 (d1.toNat : Int), .int .u8 (d2.toNat : Int)]) (t := 5) (fr := (0, 0)) (heap_alloc_new wr _)) (by simp [Value.oneCell'])
                (by omega) (by simp only [maxLen]; omega) (by omega) (by simp; have := hb.size; omega) (wr.heap.size + 1) (by simp) ?_; intro gg cap w1 hown1 hgrow hat hlt))
        all_goals
          go_wp2_with fail
          go_roundw
          case rel => exact ⟨k + 1, by omega, by go_num, by rw [HS.out, List.length_append]; unfold cellsOf; rw [List.map_append]; exact hown1, hb.trans (below_append HO.out (((Below.refl _ _).alloc hb.size _).drew) (by simp; have := hb.size; omega) hgrow)⟩
          case measure => simp [intOf]; omega
    · have hlt' : ¬ (k : Int) < s.size := by omega
      obtain rfl : k = s.size := by omega
      have hcv : ∀ g cap (w2 : World), w2.ownsRow w.heap.size 5 1 (.slice (some ⟨g, 0, none⟩) ((quoteTo s s.size).length + 1) cap) ((quoteTo s s.size).length + 1) (cellsOf (quoteTo s s.size) ++ [.int .u8 34]) →
          (convert 133 9 (.slice (some ⟨g, 0, none⟩) ((quoteTo s s.size).length + 1) cap)).run Tryz.prog w2 = .ok (.string ⟨(quoteL s.data.toList).toArray⟩) w2 := by
        intro g cap w2 h
        have := conv_row (l := quoteL s.data.toList) (v := .slice (some ⟨g, 0, none⟩) ((quoteTo s s.size).length + 1) cap) (w := w2) (base := w.heap.size) (by rw [← quoteTo_all, List.length_append]; unfold cellsOf; rw [List.map_append]; exact h)
        exact this
      go_wp2_with (at_builtin; go_must (refine wpList_append_lies _ rfl (.tmp 39) (.tmp 40) _ rfl w.heap.size 5 i0 _ 1 1 Tryz.underlying133 hi0 hz0 hz1 hz2 rfl (by omega) u4 (quoteTo s s.size).length (cellsOf (quoteTo s s.size)) rfl (HO.out.alloc _) ⟨wr.heap.size, 0, none⟩ 1 1 [.int .u8 34] rfl rfl (cell_one_new _ _ _) (by simp [Value.oneCell']) (by omega) (by simp only [maxLen]; omega) (by omega) (by simp; have := hb.size; omega) _ rfl ?_; intro g cap w1 ho1 hg1 _ _; have hcv1 := hcv g cap w1 ho1; clear hcv))
      go_ret2
      exact ⟨rfl, hb.trans (below_append HO.out ((Below.refl _ _).alloc hb.size _) (by simp; have := hb.size; omega) hg1)⟩

end Go.Proofs.YtmmffeldlhofiaaGreatDoor
end
section
namespace Go.Proofs.YtmmffeldlhofiaaGreatDoor
set_option maxRecDepth 10000
open Go.RowKit Punnet.Name
set_option linter.unusedVariables false

/-- What a scan tells. -/
def scanOf (s : ByteArray) (at_ : Int) : ByteArray × Nat × Int :=
  if at_ < 0 ∨ (s.size : Int) < at_ then (⟨#[]⟩, 0, 2) else
  match quotedAt s.data.toList at_.toNat with
  | none => (⟨#[]⟩, 0, 4)
  | some (t, n) => if 40 < t.length then (⟨#[]⟩, 0, 14) else (⟨t.toArray⟩, n, 0)
def scanV (r : ByteArray × Nat × Int) : Value := .tuple #[.string r.1, .int .i64 (r.2.1 : Int), .int .i64 r.2.2]

theorem scanOf_arg {s : ByteArray} {i : Int} (h : i < 0 ∨ (s.size : Int) < i) : scanOf s i = (⟨#[]⟩, 0, 2) := by unfold scanOf; rw [if_pos h]
theorem scanOf_none {s : ByteArray} {k : Nat} (h : k ≤ s.size) (hq : quotedAt s.data.toList k = none) : scanOf s (k : Int) = (⟨#[]⟩, 0, 4) := by
  unfold scanOf; rw [if_neg (by omega), Int.toNat_natCast, hq]
theorem scanOf_long {s : ByteArray} {k n : Nat} {t : List UInt8} (h : k ≤ s.size) (hq : quotedAt s.data.toList k = some (t, n)) (hl : 40 < t.length) : scanOf s (k : Int) = (⟨#[]⟩, 0, 14) := by
  unfold scanOf; rw [if_neg (by omega), Int.toNat_natCast, hq]; simp only; rw [if_pos hl]
theorem scanOf_fine {s : ByteArray} {k n : Nat} {t : List UInt8} (h : k ≤ s.size) (hq : quotedAt s.data.toList k = some (t, n)) (hl : ¬ 40 < t.length) : scanOf s (k : Int) = (⟨t.toArray⟩, n, 0) := by
  unfold scanOf; rw [if_neg (by omega), Int.toNat_natCast, hq]; simp only; rw [if_neg hl]

theorem ret_scan {r : ByteArray × Nat × Int} {a : ByteArray} {b : Nat} {c : Int} (h : r = (a, b, c)) : Ending.returned (.tuple #[.string a, .int .i64 (b : Int), .int .i64 c]) = .returned (scanV r) := by rw [h]; rfl

theorem row_slice {w : World} {base n : Nat} {e : TypeId} {v : Value} {xs : List Value} (h : w.ownsRow base e 1 v n xs) : ∃ a cap, v = .slice a n cap := by
  rcases h.2 with ⟨rfl, rfl⟩ | ⟨g, cap, cur, rfl, _⟩
  · exact ⟨_, _, rfl⟩
  · exact ⟨_, _, rfl⟩

set_option maxHeartbeats 1000000 in
theorem scan_any (s : ByteArray) (i : Int) (w : World) (hs : s.size ≤ 16777216) (hi : -9223372036854775808 ≤ i ∧ i ≤ 9223372036854775807) :
    Calls Tryz.prog 145 #[.string s, .int .i64 i] w fun e w' => e = .returned (scanV (scanOf s i)) ∧ Below w.heap.size w w' := by
  by_cases h0 : i < 0
  · have HE := Lib.hid (scanOf_arg (s := s) (.inl h0))
    go_enter Tryz.func145, Tryz.ntmps145
    go_wp2_with fail
    go_ret3
    exact ⟨ret_scan HE.out, Below.refl _ _⟩
  by_cases h1 : (s.size : Int) < i
  · have HE := Lib.hid (scanOf_arg (s := s) (.inr h1))
    go_enter Tryz.func145, Tryz.ntmps145
    go_wp2_with fail
    go_ret3
    exact ⟨ret_scan HE.out, Below.refl _ _⟩
  obtain ⟨k, rfl⟩ : ∃ k : Nat, i = k := ⟨i.toNat, by omega⟩
  have hk : k ≤ s.size := by omega
  go_enter Tryz.func145, Tryz.ntmps145
  go_wp2_with fail
  refine (quoted_any s k _ hs).mono ?_
  rintro e w1 (⟨hq, rfl, hb⟩ | ⟨t, n, v, hq, rfl, ho, hb⟩)
  · have HE := Lib.hid (scanOf_none hk hq)
    clear hq
    go_wp2_with fail
    go_ret3
    exact ⟨ret_scan HE.out, hb⟩
  · have hn := (quotedAt_le hq).2
    have hn' : n ≤ s.size := by simpa using hn
    have HO := Lib.hid (conv_row ho)
    obtain ⟨a, cap, rfl⟩ := row_slice ho
    by_cases hl : 40 < t.length
    · have HE := Lib.hid (scanOf_long hk hq hl)
      have hl' : (40 : Int) < t.length := by omega
      clear hq ho hn
      go_wp2_with fail
      go_ret3
      exact ⟨ret_scan HE.out, hb⟩
    · have HE := Lib.hid (scanOf_fine hk hq hl)
      have hl' : ¬ (40 : Int) < t.length := by omega
      have hcv := HO.out
      clear hq ho hn HO
      go_wp2_with fail
      go_ret3
      exact ⟨ret_scan HE.out, hb⟩

set_option maxHeartbeats 1000000 in
theorem refScan_any (s : ByteArray) (i : Int) (w : World) (hs : s.size ≤ 16777216) (hi : -9223372036854775808 ≤ i ∧ i ≤ 9223372036854775807) :
    Calls Tryz.prog 138 #[.string s, .int .i64 i] w fun e w' => e = .returned (scanV (scanOf s i)) ∧ Below w.heap.size w w' := by
  by_cases h0 : i < 0
  · have HE := Lib.hid (scanOf_arg (s := s) (.inl h0))
    go_enter Tryz.func138, Tryz.ntmps138
    go_wp2_with fail
    go_ret3
    exact ⟨ret_scan HE.out, Below.refl _ _⟩
  by_cases h1 : (s.size : Int) < i
  · have HE := Lib.hid (scanOf_arg (s := s) (.inr h1))
    go_enter Tryz.func138, Tryz.ntmps138
    go_wp2_with fail
    go_ret3
    exact ⟨ret_scan HE.out, Below.refl _ _⟩
  obtain ⟨k, rfl⟩ : ∃ k : Nat, i = k := ⟨i.toNat, by omega⟩
  have hk : k ≤ s.size := by omega
  go_enter Tryz.func138, Tryz.ntmps138
  go_wp2_with fail
  refine (begins_any s k _ hs).mono ?_
  rintro e w1 ⟨hb, ⟨hq, rfl⟩ | ⟨t, n, hq, rfl⟩⟩
  · have HE := Lib.hid (scanOf_none hk hq)
    clear hq
    go_wp2_with fail
    go_ret3
    exact ⟨ret_scan HE.out, hb⟩
  · have hn := (quotedAt_le hq).2
    have hn' : n ≤ s.size := by simpa using hn
    have hz : (⟨t.toArray⟩ : ByteArray).size = t.length := by simp [ByteArray.size]
    by_cases hl : 40 < t.length
    · have HE := Lib.hid (scanOf_long hk hq hl)
      have hl' : (40 : Int) < (⟨t.toArray⟩ : ByteArray).size := by omega
      generalize (⟨t.toArray⟩ : ByteArray) = tb at *
      clear hq hn hz
      go_wp2_with fail
      go_ret3
      exact ⟨ret_scan HE.out, hb⟩
    · have HE := Lib.hid (scanOf_fine hk hq hl)
      have hl' : ¬ (40 : Int) < (⟨t.toArray⟩ : ByteArray).size := by omega
      generalize (⟨t.toArray⟩ : ByteArray) = tb at *
      clear hq hn hz
      go_wp2_with fail
      go_ret3
      exact ⟨ret_scan HE.out, hb⟩

/-- What Unquote tells. -/
def unquoteOf (s : ByteArray) : ByteArray × Int :=
  if (scanOf s 0).2.2 = 0 then (if (scanOf s 0).2.1 = s.size then ((scanOf s 0).1, 0) else (⟨#[]⟩, 4)) else (⟨#[]⟩, (scanOf s 0).2.2)
theorem ret_unq {r : ByteArray × Int} {a : ByteArray} {c : Int} (h : r = (a, c)) : Ending.returned (.tuple #[.string a, .int .i64 c]) = .returned (.tuple #[.string r.1, .int .i64 r.2]) := by rw [h]

set_option maxHeartbeats 1000000 in
theorem unquote_any (s : ByteArray) (w : World) (hs : s.size ≤ 16777216) :
    Calls Tryz.prog 117 #[.string s] w fun e w' => e = .returned (.tuple #[.string (unquoteOf s).1, .int .i64 (unquoteOf s).2]) ∧ Below w.heap.size w w' := by
  have S := Lib.hid (fun w => scan_any s 0 w hs (by omega))
  have key : ∃ t n c, scanOf s 0 = (t, n, c) := ⟨_, _, _, rfl⟩
  obtain ⟨t, n, c, hsc⟩ := key
  rw [hsc] at S
  have hu : unquoteOf s = if c = 0 then (if n = s.size then (t, 0) else (⟨#[]⟩, 4)) else (⟨#[]⟩, c) := by unfold unquoteOf; rw [hsc]
  by_cases hc : c = 0
  · subst hc
    rw [if_pos rfl] at hu
    by_cases hn : n = s.size
    · rw [if_pos hn] at hu
      have HU := Lib.hid hu
      have hn' : ((n : Int) != (s.size : Int)) = false := bne_eq_false_iff_eq.2 (by omega)
      clear hu hn hsc
      go_enter Tryz.func117, Tryz.ntmps117
      go_wp2_with fail
      refine (S.out _).mono ?_
      rintro e w1 ⟨rfl, hb⟩
      unfold scanV
      go_wp2_with fail
      go_ret2
      exact ⟨ret_unq HU.out, hb⟩
    · rw [if_neg hn] at hu
      have HU := Lib.hid hu
      have hn' : ((n : Int) != (s.size : Int)) = true := bne_iff_ne.2 (by omega)
      clear hu hn hsc
      go_enter Tryz.func117, Tryz.ntmps117
      go_wp2_with fail
      refine (S.out _).mono ?_
      rintro e w1 ⟨rfl, hb⟩
      unfold scanV
      go_wp2_with fail
      go_ret2
      exact ⟨ret_unq HU.out, hb⟩
  · rw [if_neg hc] at hu
    have HU := Lib.hid hu
    have hc' : (c != 0) = true := bne_iff_ne.2 hc
    clear hu hc hsc
    go_enter Tryz.func117, Tryz.ntmps117
    go_wp2_with fail
    refine (S.out _).mono ?_
    rintro e w1 ⟨rfl, hb⟩
    unfold scanV
    go_wp2_with fail
    go_ret2
    exact ⟨ret_unq HU.out, hb⟩
end Go.Proofs.YtmmffeldlhofiaaGreatDoor
end
section
namespace Go.Proofs.YtmmffeldlhofiaaGreatDoor
set_option maxRecDepth 10000
open Go.RowKit Punnet.Name
set_option linter.unusedVariables false

theorem drop_lt {l m : List UInt8} {k : Nat} {c : UInt8} (h : l.drop k = c :: m) : k < l.length := by
  rcases Nat.lt_or_ge k l.length with h1 | h1
  · exact h1
  · rw [List.drop_eq_nil_of_le h1] at h; cases h
theorem drop_get {l m : List UInt8} {k : Nat} {c : UInt8} (h : l.drop k = c :: m) : l[k]'(drop_lt h) = c := by
  have := List.drop_eq_getElem_cons (drop_lt h)
  rw [h] at this; injection this with h1 _; exact h1.symm
theorem drop_more {l m r : List UInt8} {k : Nat} (h : l.drop k = m ++ r) : l.drop (k + m.length) = r := by
  rw [← List.drop_drop, h, List.drop_append_of_le_length (Nat.le_refl _), List.drop_length]; rfl

theorem signOf_head (c : UInt8) : ∃ x r, signOf c = x :: r ∧ x.toNat ≠ 34 := by
  unfold signOf
  cases hp : plainB c with
  | true => exact ⟨c, [], rfl, (plain_ne hp).2⟩
  | false => exact ⟨92, _, rfl, by decide⟩

theorem bodyAt_quote {l r : List UInt8} : ∀ (t : List UInt8) (k : Nat), l.drop k = t.flatMap signOf ++ 34 :: r → bodyAt l k = some (t, k + (t.flatMap signOf).length + 1) := by
  intro t
  induction t with
  | nil =>
    intro k h
    have h' : l.drop k = 34 :: r := by simpa using h
    rw [bodyAt_end (drop_lt h') (by rw [drop_get h']; rfl)]; rfl
  | cons c t ih =>
    intro k h
    rw [List.flatMap_cons, List.append_assoc] at h
    obtain ⟨x, m, hx, hx34⟩ := signOf_head c
    have hc : l.drop k = x :: (m ++ (t.flatMap signOf ++ 34 :: r)) := by rw [h, hx]; rfl
    have hs : sign (l.drop k) = some (c, (signOf c).length - 1) := by rw [h]; exact sign_signOf c _
    have hp := signOf_pos c
    rw [bodyAt_some (drop_lt hc) (by rw [drop_get hc]; exact hx34) hs, show k + ((signOf c).length - 1) + 1 = k + (signOf c).length by omega, ih _ (drop_more h)]
    simp [List.flatMap_cons]; omega

theorem quotedAt_quote {l r : List UInt8} (t : List UInt8) (k : Nat) (h : l.drop k = quoteL t ++ r) : quotedAt l k = some (t, k + (quoteL t).length) := by
  unfold quoteL at h
  have h1 : l.drop k = 34 :: (t.flatMap signOf ++ 34 :: r) := by rw [h]; simp
  unfold quotedAt
  rw [dif_pos (drop_lt h1), if_pos (by rw [drop_get h1]; rfl), bodyAt_quote (r := r) t (k + 1) (drop_more (m := [34]) (by rw [h1]; rfl))]
  unfold quoteL; simp; omega

theorem bodyAt_inv {l : List UInt8} : ∀ (N k : Nat) (t : List UInt8) (n : Nat), l.length - k = N → bodyAt l k = some (t, n) → l.drop k = t.flatMap signOf ++ 34 :: l.drop n ∧ n = k + (t.flatMap signOf).length + 1 := by
  intro N
  induction N using Nat.strongRecOn with
  | _ N ih =>
    intro k t n hN h
    by_cases hk : k < l.length
    · by_cases hq : l[k].toNat = 34
      · rw [bodyAt_end hk hq] at h
        injection h with h; injection h with h1 h2; subst h1; subst h2
        refine ⟨?_, by simp⟩
        rw [List.drop_eq_getElem_cons hk]
        have : l[k] = 34 := by rw [← UInt8.toNat_inj, hq]; rfl
        simp [this]
      · cases hs : sign (l.drop k) with
        | none => rw [bodyAt_none hk hq hs] at h; cases h
        | some p =>
          obtain ⟨c, m⟩ := p
          rw [bodyAt_some hk hq hs] at h
          cases hb : bodyAt l (k + m + 1) with
          | none => rw [hb] at h; cases h
          | some p =>
            obtain ⟨t', n'⟩ := p
            rw [hb] at h
            simp only [Option.map_some] at h
            injection h with h; injection h with h1 h2; subst h1; subst h2
            have hi := ih (l.length - (k + m + 1)) (by omega) (k + m + 1) t' n' rfl hb
            obtain ⟨r, hr, hm⟩ := sign_inv hs
            have hd := drop_more hr
            rw [show k + (signOf c).length = k + m + 1 by omega] at hd
            refine ⟨?_, by rw [List.flatMap_cons, List.length_append]; omega⟩
            rw [hr, ← hd, hi.1, List.flatMap_cons, List.append_assoc]
    · rw [bodyAt_out hk] at h; cases h

theorem quotedAt_inv {l : List UInt8} {k n : Nat} {t : List UInt8} (h : quotedAt l k = some (t, n)) : l.drop k = quoteL t ++ l.drop n ∧ n = k + (quoteL t).length := by
  unfold quotedAt at h
  split at h
  · rename_i hk
    split at h
    · rename_i hq
      obtain ⟨h1, h2⟩ := bodyAt_inv _ _ _ _ rfl h
      have : l[k] = 34 := by rw [← UInt8.toNat_inj, hq]; rfl
      refine ⟨?_, by unfold quoteL; rw [List.length_cons, List.length_append, List.length_singleton]; omega⟩
      rw [List.drop_eq_getElem_cons hk, h1, this]; unfold quoteL; simp
    · cases h
  · cases h

/-! ### Where a word ends there is a blank, or nothing. -/
theorem blankAt_stop (l : List UInt8) (k : Nat) (h : blankAt l k < l.length) : l[blankAt l k] = 32 := by
  unfold blankAt at *
  generalize hp : (fun b : UInt8 => decide (b.toNat ≠ 32)) = p at *
  have key : ∀ (m : List UInt8) (h : (m.takeWhile p).length < m.length), p (m[(m.takeWhile p).length]) = false := by
    intro m
    induction m with
    | nil => intro h; simp at h
    | cons a m ih =>
      intro h
      cases ha : p a with
      | true =>
        rw [List.takeWhile_cons, if_pos ha] at h
        simp only [List.takeWhile_cons, ha, if_true, List.length_cons, List.getElem_cons_succ]
        exact ih (by simpa using h)
      | false => simp only [List.takeWhile_cons, ha]; simpa using ha
  have h1 : ((l.drop k).takeWhile p).length < (l.drop k).length := by rw [List.length_drop]; omega
  have h2 := key _ h1
  rw [List.getElem_drop] at h2
  have h3 : ∀ c : UInt8, p c = false → c = 32 := by
    intro c hc
    rw [← hp] at hc
    simp only [decide_eq_false_iff_not, ne_eq, Decidable.not_not] at hc
    rw [← UInt8.toNat_inj, hc]; rfl
  exact h3 _ h2

theorem wordEnd_stop (l : List UInt8) (k : Nat) (h : wordEndOf l k < l.length) : l[wordEndOf l k] = 32 := by
  have hb := fun h => blankAt_stop l k h
  unfold wordEndOf at *
  split at h
  · rename_i x t e hq
    by_cases hc : e = l.length ∨ l[e]? = some 32
    · have e1 : (if e = l.length ∨ l[e]? = some 32 then e else blankAt l k) = e := if_pos hc
      simp only [e1] at h ⊢
      rcases hc with hc | hc
      · omega
      · rw [List.getElem?_eq_getElem h] at hc; injection hc
    · have e1 : (if e = l.length ∨ l[e]? = some 32 then e else blankAt l k) = blankAt l k := if_neg hc
      simp only [e1] at h ⊢
      exact hb h
  · exact hb h

/-- With a blank between each two. -/
def joinL : List ByteArray → List UInt8
  | [] => []
  | [a] => a.data.toList
  | a :: b :: r => a.data.toList ++ 32 :: joinL (b :: r)

theorem splitB_ne (s : ByteArray) (k : Nat) : ∃ a r, splitB s k = a :: r := by
  rw [splitB]; split
  · exact ⟨_, _, rfl⟩
  · exact ⟨_, _, rfl⟩
theorem joinL_cons (a : ByteArray) {l : List ByteArray} (h : ∃ b r, l = b :: r) : joinL (a :: l) = a.data.toList ++ 32 :: joinL l := by
  obtain ⟨b, r, rfl⟩ := h; rfl

theorem join_split (s : ByteArray) : ∀ (N k : Nat), s.size - k = N → k ≤ s.size → joinL (splitB s k) = s.data.toList.drop k := by
  have hlen : s.data.toList.length = s.size := by simp
  intro N
  induction N using Nat.strongRecOn with
  | _ N ih =>
    intro k hN hk
    obtain ⟨b1, b2⟩ := wordEnd_bound s.data.toList (k := k) (by omega)
    have hst := wordEnd_stop s.data.toList k
    by_cases h : wordEndOf s.data.toList k < s.size
    · rw [splitB_more hk h, joinL_cons _ (splitB_ne _ _), ih (s.size - (wordEndOf s.data.toList k + 1)) (by omega) _ rfl (by omega), Lib.extract_data]
      have h1 := List.drop_eq_getElem_cons (l := s.data.toList) (i := wordEndOf s.data.toList k) (by omega)
      rw [hst (by omega)] at h1
      rw [← h1]
      have h2 := List.take_append_drop (wordEndOf s.data.toList k - k) (s.data.toList.drop k)
      rw [List.drop_drop, show k + (wordEndOf s.data.toList k - k) = wordEndOf s.data.toList k by omega] at h2
      exact h2
    · rw [splitB_last h]
      show (s.extract k (wordEndOf s.data.toList k)).data.toList = _
      rw [Lib.extract_data, List.take_of_length_le (by rw [List.length_drop]; omega)]
end Go.Proofs.YtmmffeldlhofiaaGreatDoor
end
section
namespace Punnet.Num
set_option maxRecDepth 10000

/-- The digits of a natural number in base 10, the greatest first. -/
def digs (m : Nat) : List UInt8 := if m < 10 then [UInt8.ofNat (48 + m)] else digs (m / 10) ++ [UInt8.ofNat (48 + m % 10)]
  termination_by m
  decreasing_by omega

theorem digs_small {m : Nat} (h : m < 10) : digs m = [UInt8.ofNat (48 + m)] := by rw [digs, if_pos h]
theorem digs_step {m : Nat} (h : ¬ m < 10) : digs m = digs (m / 10) ++ [UInt8.ofNat (48 + m % 10)] := by rw [digs, if_neg h]
theorem digs_ne (m : Nat) : digs m ≠ [] := by rw [digs]; split <;> simp

/-- The print of a whole number. -/
def print (n : Int) : List UInt8 := if n < 0 then 45 :: digs n.natAbs else digs n.natAbs

/-- The print as a text. -/
def printB (n : Int) : ByteArray := ⟨(print n).toArray⟩
theorem printB_data (n : Int) : (printB n).data.toList = print n := by simp [printB]
theorem printB_size (n : Int) : (printB n).size = (print n).length := by
  rw [← printB_data]; simp

/-- Is a byte a digit? -/
def dig (b : UInt8) : Bool := decide (48 ≤ b.toNat ∧ b.toNat ≤ 57)

/-- 1, if a text begins with a '-'. -/
def neg : List UInt8 → Nat
  | b :: _ => if b.toNat = 45 then 1 else 0
  | [] => 0

theorem neg_le (l : List UInt8) : neg l ≤ l.length := by
  cases l with
  | nil => simp [neg]
  | cons b r => simp only [neg, List.length_cons]; split <;> omega
theorem neg_le_one (l : List UInt8) : neg l ≤ 1 := by
  cases l with
  | nil => simp [neg]
  | cons b r => simp only [neg]; split <;> omega

/-- How long the longest beginning is that is digits, or a '-' and digits. -/
def pieceLen (l : List UInt8) : Nat :=
  if ((l.drop (neg l)).takeWhile dig).length = 0 then 0 else neg l + ((l.drop (neg l)).takeWhile dig).length

/-- What holds of num.piece at the head of a round. -/
def PieceInv (l : List UInt8) (k D E : Nat) : Prop :=
  k ≤ l.length ∧ (k = 0 → D = 0 ∧ E = 0) ∧ (0 < k → D + neg l = k ∧ E = if D = 0 then 0 else k) ∧ ∀ j (h : j < l.length), neg l ≤ j → j < k → dig l[j] = true

theorem PieceInv.start (l : List UInt8) : PieceInv l 0 0 0 := ⟨Nat.zero_le _, fun _ => ⟨rfl, rfl⟩, fun h => absurd h (by omega), fun _ _ _ h => absurd h (by omega)⟩

theorem PieceInv.skip {l : List UInt8} {D E : Nat} (h : PieceInv l 0 D E) (hl : 0 < l.length) (hb : l[0].toNat = 45) : PieceInv l 1 D E := by
  obtain ⟨_, h0, _, _⟩ := h
  obtain ⟨rfl, rfl⟩ := h0 rfl
  have hn : neg l = 1 := by
    cases l with
    | nil => simp at hl
    | cons b r => simpa [neg] using hb
  exact ⟨hl, fun h => absurd h (by omega), fun _ => ⟨by omega, by simp⟩, fun j _ h1 h2 => absurd h2 (by omega)⟩

theorem neg_of_dig {l : List UInt8} (hl : 0 < l.length) (hb : l[0].toNat ≠ 45) : neg l = 0 := by
  cases l with
  | nil => rfl
  | cons b r => simp only [neg]; exact if_neg (by simpa using hb)

theorem neg_of_minus {l : List UInt8} (hl : 0 < l.length) (hb : l[0].toNat = 45) : neg l = 1 := by
  cases l with
  | nil => simp at hl
  | cons b r => simp only [neg]; exact if_pos (by simpa using hb)

theorem PieceInv.more {l : List UInt8} {k D E : Nat} (h : PieceInv l k D E) (hl : k < l.length) (hb : 48 ≤ l[k].toNat) (hb' : l[k].toNat ≤ 57) : PieceInv l (k + 1) (D + 1) (k + 1) := by
  obtain ⟨_, h0, h1, h2⟩ := h
  have hd : D + neg l = k := by
    rcases Nat.eq_zero_or_pos k with rfl | hp
    · rw [neg_of_dig hl (by omega)]; exact (h0 rfl).1
    · exact (h1 hp).1
  refine ⟨hl, fun h => absurd h (by omega), fun _ => ⟨by omega, by simp⟩, fun j hj hn hjk => ?_⟩
  by_cases e : j = k
  · subst e; simp [dig, hb, hb']
  · exact h2 j hj hn (by omega)

theorem takeWhile_len {p : UInt8 → Bool} {l : List UInt8} {n : Nat} (hn : n ≤ l.length) (ha : ∀ j (h : j < l.length), j < n → p l[j] = true) (he : ∀ h : n < l.length, p l[n] = false) : (l.takeWhile p).length = n := by
  induction l generalizing n with
  | nil => simp at hn; simp [hn]
  | cons b r ih =>
    cases n with
    | zero =>
      have hb : p b = false := he (by simp)
      rw [List.takeWhile_cons, if_neg (by simp [hb])]; rfl
    | succ n =>
      have hb : p b = true := ha 0 (by simp) (by omega)
      rw [List.takeWhile_cons, if_pos hb, List.length_cons, ih (by simpa using hn) (fun j h hj => ha (j + 1) (by simpa using h) (by omega)) (fun h => he (by simpa using h))]

theorem PieceInv.stop {l : List UInt8} {k D E : Nat} (h : PieceInv l k D E) (he : ∀ h : k < l.length, ¬ (48 ≤ l[k].toNat ∧ l[k].toNat ≤ 57) ∧ ¬ (k = 0 ∧ l[k].toNat = 45)) : pieceLen l = if D = 0 then 0 else E := by
  obtain ⟨hk, h0, h1, h2⟩ := h
  have hd : D + neg l = k := by
    rcases Nat.eq_zero_or_pos k with rfl | hp
    · have hn : neg l = 0 := by
        cases l with
        | nil => rfl
        | cons b r => exact neg_of_dig (by simp) (fun e => (he (by simp)).2 ⟨rfl, e⟩)
      rw [hn]; exact (h0 rfl).1
    · exact (h1 hp).1
  have hlen : ((l.drop (neg l)).takeWhile dig).length = D := by
    refine takeWhile_len (by rw [List.length_drop]; omega) (fun j h hj => ?_) (fun h => ?_)
    · rw [List.getElem_drop]; exact h2 _ _ (by omega) (by omega)
    · rw [List.getElem_drop]
      have hh : k < l.length := by rw [List.length_drop] at h; omega
      have := (he hh).1
      subst hd
      simp only [dig, decide_eq_false_iff_not]
      rw [show l[neg l + D]'(by omega) = l[D + neg l]'hh from by congr 1; omega]
      exact this
  rw [pieceLen, hlen]
  by_cases hD : D = 0
  · simp [hD]
  · rw [if_neg hD, if_neg hD, (h1 (by omega)).2, if_neg hD]; omega

theorem takeWhile_all {p : UInt8 → Bool} {l : List UInt8} (h : (l.takeWhile p).length = l.length) : ∀ j (hj : j < l.length), p l[j] = true := by
  induction l with
  | nil => intro j hj; simp at hj
  | cons b r ih =>
    intro j hj
    rw [List.takeWhile_cons] at h
    by_cases hb : p b = true
    · rw [if_pos hb] at h
      cases j with
      | zero => exact hb
      | succ j => exact ih (by simpa using h) j (by simpa using hj)
    · rw [if_neg hb] at h; simp at h

theorem takeWhile_len_le (p : UInt8 → Bool) (l : List UInt8) : (l.takeWhile p).length ≤ l.length := by
  induction l with
  | nil => simp
  | cons b r ih => rw [List.takeWhile_cons]; split <;> simp <;> omega

theorem piece_gt {l : List UInt8} (hp : pieceLen l = l.length) (hl : 0 < l.length) : neg l < l.length := by
  rw [pieceLen] at hp
  split at hp <;> omega

theorem piece_digs {l : List UInt8} (hp : pieceLen l = l.length) (hl : 0 < l.length) (k : Nat) (hk : k < l.length) (hn : neg l ≤ k) : dig l[k] = true := by
  have hw : ((l.drop (neg l)).takeWhile dig).length = (l.drop (neg l)).length := by
    rw [List.length_drop]
    rw [pieceLen] at hp
    split at hp <;> omega
  have := takeWhile_all hw (k - neg l) (by rw [List.length_drop]; omega)
  rw [List.getElem_drop] at this
  rw [← this]
  congr 2
  omega

/-- What digits come to. -/
def natOf (l : List UInt8) : Nat := l.foldl (fun a b => 10 * a + (b.toNat - 48)) 0

theorem natOf_snoc (l : List UInt8) (b : UInt8) : natOf (l ++ [b]) = 10 * natOf l + (b.toNat - 48) := by simp [natOf]
theorem natOf_take_succ {l : List UInt8} {k : Nat} (h : k < l.length) : natOf (l.take (k + 1)) = 10 * natOf (l.take k) + (l[k].toNat - 48) := by
  rw [List.take_succ_eq_append_getElem h, natOf_snoc]
theorem foldl_ge (l : List UInt8) : ∀ a : Nat, a ≤ l.foldl (fun a b => 10 * a + (b.toNat - 48)) a := by
  induction l with
  | nil => exact fun a => Nat.le_refl _
  | cons b r ih => exact fun a => Nat.le_trans (show a ≤ 10 * a + (b.toNat - 48) by omega) (ih _)
theorem natOf_take_le (l : List UInt8) (k : Nat) : natOf (l.take k) ≤ natOf l := by
  have h : natOf l = (l.drop k).foldl (fun a b => 10 * a + (b.toNat - 48)) (natOf (l.take k)) := by
    rw [natOf, natOf, ← List.foldl_append, List.take_append_drop]
  rw [h]
  exact foldl_ge _ _

/-- The number that digits, or a '-' and digits, tell; the code. -/
def valueOf (l : List UInt8) : Int × Int :=
  if (l.drop (neg l)).head? = some 48 ∧ (neg l = 1 ∨ 1 < (l.drop (neg l)).length) then (0, 4)
  else if neg l = 1 then (if 9223372036854775808 < natOf (l.drop (neg l)) then (0, 3) else (-(natOf (l.drop (neg l)) : Int), 0))
  else (if 9223372036854775807 < natOf (l.drop (neg l)) then (0, 3) else ((natOf (l.drop (neg l)) : Int), 0))

/-- What num.Read tells. -/
def readOf (l : List UInt8) : Int × Int := if pieceLen l = 0 ∨ pieceLen l ≠ l.length then (0, 4) else valueOf l

/-- What num.Scan tells. -/
def scanOf (l : List UInt8) (a : Int) : Int × Int × Int :=
  if a < 0 ∨ (l.length : Int) < a then (0, 0, 2)
  else if pieceLen (l.drop a.toNat) = 0 then (0, 0, 4)
  else if (valueOf ((l.drop a.toNat).take (pieceLen (l.drop a.toNat)))).2 ≠ 0 then (0, 0, (valueOf ((l.drop a.toNat).take (pieceLen (l.drop a.toNat)))).2)
  else ((valueOf ((l.drop a.toNat).take (pieceLen (l.drop a.toNat)))).1, a + pieceLen (l.drop a.toNat), 0)

theorem pieceLen_le (l : List UInt8) : pieceLen l ≤ l.length := by
  have h1 := takeWhile_len_le dig (l.drop (neg l))
  have h2 := neg_le l
  rw [List.length_drop] at h1
  rw [pieceLen]
  split <;> omega

end Punnet.Num
end
section
namespace Punnet.Num
set_option maxRecDepth 10000
open Go

theorem natOf_nil : natOf [] = 0 := rfl
theorem foldl_add (r : List UInt8) : ∀ a : Nat, r.foldl (fun a b => 10 * a + (b.toNat - 48)) a = a * 10 ^ r.length + natOf r := by
  induction r with
  | nil => intro a; simp [natOf]
  | cons b r ih =>
    intro a
    have e : natOf (b :: r) = (10 * 0 + (b.toNat - 48)) * 10 ^ r.length + natOf r := by rw [← ih]; rfl
    rw [List.foldl_cons, ih, e, List.length_cons, Nat.pow_succ]
    simp only [Nat.mul_zero, Nat.zero_add, Nat.add_mul]
    rw [Nat.mul_comm 10 a, Nat.mul_assoc, Nat.mul_comm 10 (10 ^ r.length)]
    omega
theorem natOf_cons (b : UInt8) (r : List UInt8) : natOf (b :: r) = (b.toNat - 48) * 10 ^ r.length + natOf r := by
  rw [natOf, List.foldl_cons, foldl_add]; simp

/-- All bytes are digits. -/
def Digits (l : List UInt8) : Prop := ∀ b ∈ l, 48 ≤ b.toNat ∧ b.toNat ≤ 57

theorem Digits.tail {b : UInt8} {r : List UInt8} (h : Digits (b :: r)) : Digits r := fun x hx => h x (List.mem_cons_of_mem _ hx)
theorem Digits.head {b : UInt8} {r : List UInt8} (h : Digits (b :: r)) : 48 ≤ b.toNat ∧ b.toNat ≤ 57 := h b (List.mem_cons_self)
theorem Digits.append {x y : List UInt8} (hx : Digits x) (hy : Digits y) : Digits (x ++ y) := fun b hb => (List.mem_append.1 hb).elim (hx b) (hy b)
theorem Digits.left {x y : List UInt8} (h : Digits (x ++ y)) : Digits x := fun b hb => h b (List.mem_append.2 (.inl hb))

theorem natOf_lt {l : List UInt8} (h : Digits l) : natOf l < 10 ^ l.length := by
  induction l with
  | nil => simp [natOf]
  | cons b r ih =>
    have h1 := ih h.tail
    have h2 := h.head
    rw [natOf_cons, List.length_cons, Nat.pow_succ]
    have : (b.toNat - 48) * 10 ^ r.length ≤ 9 * 10 ^ r.length := Nat.mul_le_mul_right _ (by omega)
    omega

theorem lex_nat : ∀ {x y : List UInt8}, x.length = y.length → Digits x → Digits y → Op.bytesLess x y = decide (natOf x < natOf y)
  | [], [], _, _, _ => by simp [Op.bytesLess]
  | [], _ :: _, h, _, _ => by simp at h
  | _ :: _, [], h, _, _ => by simp at h
  | a :: x, b :: y, h, hx, hy => by
    have hl : x.length = y.length := by simpa using h
    have ih := lex_nat hl hx.tail hy.tail
    have h1 := natOf_lt hx.tail
    have h2 := natOf_lt hy.tail
    have ha := hx.head
    have hb := hy.head
    rw [Op.bytesLess, ih, natOf_cons, natOf_cons, hl]
    rw [hl] at h1
    have hab : (a == b) = decide (a.toNat = b.toNat) := by
      by_cases e : a = b
      · subst e; simp
      · rw [beq_eq_false_iff_ne.2 e]; symm; rw [decide_eq_false_iff_not]; intro h; exact e (UInt8.toNat_inj.1 h)
    rw [hab]
    have hlt : (decide (a < b)) = decide (a.toNat < b.toNat) := by simp [UInt8.lt_iff_toNat_lt]
    rw [hlt]
    rcases Nat.lt_trichotomy a.toNat b.toNat with hc | hc | hc
    · have : (a.toNat - 48 + 1) * 10 ^ y.length ≤ (b.toNat - 48) * 10 ^ y.length := Nat.mul_le_mul_right _ (by omega)
      rw [Nat.add_mul] at this
      simp [hc]
      omega
    · have e : a.toNat - 48 = b.toNat - 48 := by omega
      simp [hc]
    · have : (b.toNat - 48 + 1) * 10 ^ y.length ≤ (a.toNat - 48) * 10 ^ y.length := Nat.mul_le_mul_right _ (by omega)
      rw [Nat.add_mul] at this
      have hn : ¬ a.toNat < b.toNat := by omega
      have hne : ¬ a.toNat = b.toNat := by omega
      simp [hn, hne]
      omega

theorem digit_toNat (d : Nat) (h : d < 10) : (UInt8.ofNat (48 + d)).toNat = 48 + d := by
  rw [UInt8.toNat_ofNat']; omega

theorem digs_digits (m : Nat) : Digits (digs m) := by
  induction m using Nat.strongRecOn with
  | _ m ih =>
    by_cases h : m < 10
    · rw [digs_small h]
      intro b hb
      simp only [List.mem_singleton] at hb
      subst hb
      rw [digit_toNat m h]; omega
    · rw [digs_step h]
      refine (ih _ (by omega)).append fun b hb => ?_
      simp only [List.mem_singleton] at hb
      subst hb
      rw [digit_toNat _ (by omega)]; omega

theorem natOf_digs (m : Nat) : natOf (digs m) = m := by
  induction m using Nat.strongRecOn with
  | _ m ih =>
    by_cases h : m < 10
    · rw [digs_small h, natOf_cons, digit_toNat m h]; simp [natOf]
    · rw [digs_step h, natOf_snoc, ih _ (by omega), digit_toNat _ (by omega)]; omega

theorem digs_low (m : Nat) (h : 10 ≤ m) : 10 ^ ((digs m).length - 1) ≤ m := by
  induction m using Nat.strongRecOn with
  | _ m ih =>
    rw [digs_step (by omega)]
    rw [List.length_append, List.length_singleton, Nat.add_sub_cancel]
    by_cases h2 : m / 10 < 10
    · rw [digs_small h2]; simp; omega
    · have := ih (m / 10) (by omega) (by omega)
      have hp : 0 < (digs (m / 10)).length := List.length_pos_iff.2 (digs_ne _)
      obtain ⟨k, hk⟩ : ∃ k, (digs (m / 10)).length = k + 1 := ⟨_, (Nat.succ_pred_eq_of_pos hp).symm⟩
      rw [hk] at this ⊢
      rw [Nat.pow_succ]
      simp only [Nat.add_sub_cancel] at this
      omega

theorem digs_len_mono {a b : Nat} (h : (digs a).length < (digs b).length) : a < b := by
  have hb : 10 ≤ b := by
    rcases Nat.lt_or_ge b 10 with hlt | hge
    · rw [digs_small hlt] at h
      have : 0 < (digs a).length := List.length_pos_iff.2 (digs_ne _)
      simp at h
      exact absurd h (digs_ne a)
    · exact hge
  have h1 := digs_low b hb
  have h2 := natOf_lt (digs_digits a)
  rw [natOf_digs] at h2
  have h3 : 10 ^ (digs a).length ≤ 10 ^ ((digs b).length - 1) := Nat.pow_le_pow_right (by omega) (by omega)
  omega

theorem digs_lex {a b : Nat} (h : (digs a).length = (digs b).length) : Op.bytesLess (digs a) (digs b) = decide (a < b) := by
  rw [lex_nat h (digs_digits a) (digs_digits b), natOf_digs, natOf_digs]

theorem natOf_pos {b : UInt8} {r : List UInt8} (h : Digits (b :: r)) (hb : b ≠ 48) : 0 < natOf (b :: r) := by
  have h1 := h.head
  have h2 : b.toNat ≠ 48 := fun e => hb (UInt8.toNat_inj.1 e)
  rw [natOf_cons]
  have : 0 < (b.toNat - 48) * 10 ^ r.length := Nat.mul_pos (by omega) (Nat.pow_pos (by omega))
  omega

theorem digs_natOf_snoc (n : Nat) : ∀ {l : List UInt8}, l.length = n → Digits l → l ≠ [] → (l.head? = some 48 → l.length = 1) → digs (natOf l) = l := by
  induction n with
  | zero => intro l hl _ hne _; exact absurd (List.length_eq_zero_iff.1 hl) hne
  | succ n ih =>
    intro l hl hd hne hz
    obtain ⟨r, b, rfl⟩ : ∃ r b, l = r ++ [b] := ⟨_, _, (List.dropLast_concat_getLast hne).symm⟩
    have hb : 48 ≤ b.toNat ∧ b.toNat ≤ 57 := hd b (by simp)
    have hr : r.length = n := by simpa using hl
    have e48 : UInt8.ofNat (48 + (b.toNat - 48)) = b := by
      rw [show 48 + (b.toNat - 48) = b.toNat by omega]; simp
    rw [natOf_snoc]
    cases r with
    | nil =>
      rw [natOf_nil, digs_small (by omega), Nat.mul_zero, Nat.zero_add, e48]; rfl
    | cons h t =>
      have hh : h ≠ 48 := by
        rintro rfl
        have := hz rfl
        simp at this
      have hp := natOf_pos hd.left hh
      rw [digs_step (by omega), show (10 * natOf (h :: t) + (b.toNat - 48)) / 10 = natOf (h :: t) by omega, show (10 * natOf (h :: t) + (b.toNat - 48)) % 10 = b.toNat - 48 by omega, e48,
        ih hr hd.left (by simp) (fun e => by simp at e; exact absurd e hh)]

theorem digs_natOf {l : List UInt8} (hd : Digits l) (hne : l ≠ []) (hz : l.head? = some 48 → l.length = 1) : digs (natOf l) = l := digs_natOf_snoc _ rfl hd hne hz

theorem digs_head {m : Nat} (h : (digs m).head? = some 48) : m = 0 := by
  have hd := digs_digits m
  have hn := natOf_digs m
  have hs : m < 10 ∨ ¬ m < 10 := by omega
  rcases hs with hs | hs
  · rw [digs_small hs] at h
    simp only [List.head?_cons, Option.some.injEq] at h
    have := congrArg UInt8.toNat h
    rw [digit_toNat m hs] at this
    have e : (48 : UInt8).toNat = 48 := rfl
    omega
  · exfalso
    have hl := digs_low m (by omega)
    revert h hd hn hl
    have hlen : 2 ≤ (digs m).length := by
      rw [digs_step hs]
      have : 0 < (digs (m / 10)).length := List.length_pos_iff.2 (digs_ne _)
      simp
      omega
    revert hlen
    generalize digs m = l
    intro hlen h hd hn hl
    cases l with
    | nil => simp at h
    | cons b r =>
      simp at h
      subst h
      rw [natOf_cons] at hn
      have e : (48 : UInt8).toNat - 48 = 0 := rfl
      rw [e, Nat.zero_mul, Nat.zero_add] at hn
      have := natOf_lt hd.tail
      rw [List.length_cons, Nat.add_sub_cancel] at hl
      omega

theorem digs_len {m k : Nat} (h : m < 10 ^ k) (hk : 0 < k) : (digs m).length ≤ k := by
  rcases Nat.lt_or_ge m 10 with h1 | h1
  · rw [digs_small h1]; exact hk
  · have h2 := digs_low m h1
    rcases Nat.lt_or_ge k (digs m).length with h3 | h3
    · have : 10 ^ k ≤ 10 ^ ((digs m).length - 1) := Nat.pow_le_pow_right (by omega) (by omega)
      omega
    · exact h3

/-- The digits of m are those of L and behind them the tail; of 0 none. -/
def LeftOf (m L : Nat) (tail : List UInt8) : Prop := digs m = if L = 0 then tail else digs L ++ tail

theorem LeftOf.start {m : Nat} (h : m ≠ 0) : LeftOf m m [] := by rw [LeftOf, if_neg h]; simp
theorem LeftOf.next {m L : Nat} {tail : List UInt8} (h : LeftOf m L tail) (hL : L ≠ 0) : LeftOf m (L / 10) (UInt8.ofNat (48 + L % 10) :: tail) := by
  rw [LeftOf, if_neg hL] at h
  rw [LeftOf, h]
  by_cases h1 : L < 10
  · rw [if_pos (by omega), digs_small h1, Nat.mod_eq_of_lt h1]; rfl
  · rw [if_neg (by omega), digs_step h1]; simp
theorem LeftOf.done {m : Nat} {tail : List UInt8} (h : LeftOf m 0 tail) : digs m = tail := h
theorem LeftOf.len {m L k : Nat} {tail : List UInt8} (h : LeftOf m L tail) (hm : m < 10 ^ k) (hk : 0 < k) : tail.length ≤ k := by
  have h1 := digs_len hm hk
  rw [h] at h1
  split at h1
  · exact h1
  · rw [List.length_append] at h1; omega

/-- Is a text digits, with a '-' ahead or none, without a 0 ahead? -/
def wordOf (l : List UInt8) : Bool := decide (neg l < l.length) && (l.drop (neg l)).all dig && !(decide ((l.drop (neg l)).head? = some 48) && decide (l ≠ [48]))

/-- What a text is that is a word of digits. -/
structure IsWord (l : List UInt8) : Prop where
  some_ : neg l < l.length
  digits : Digits (l.drop (neg l))
  zero : (l.drop (neg l)).head? = some 48 → neg l = 0 ∧ l.length = 1

theorem isWord {l : List UInt8} (h : wordOf l = true) : IsWord l := by
  simp only [wordOf, Bool.and_eq_true, decide_eq_true_iff, Bool.not_eq_true', Bool.and_eq_false_iff, decide_eq_false_iff_not, ne_eq, Decidable.not_not] at h
  obtain ⟨⟨h1, h2⟩, h3⟩ := h
  refine ⟨h1, fun b hb => ?_, fun h => ?_⟩
  · have := List.all_eq_true.1 h2 b hb
    simpa [dig] using this
  · rcases h3 with h3 | h3
    · exact absurd h h3
    · subst h3; exact ⟨rfl, rfl⟩

theorem dig_of_digits {l : List UInt8} (h : Digits l) : l.all dig = true := by
  rw [List.all_eq_true]; intro b hb; simpa [dig] using h b hb

theorem takeWhile_of_all {p : UInt8 → Bool} {l : List UInt8} (h : l.all p = true) : (l.takeWhile p).length = l.length := by
  induction l with
  | nil => rfl
  | cons b r ih =>
    simp only [List.all_cons, Bool.and_eq_true] at h
    rw [List.takeWhile_cons, if_pos h.1, List.length_cons, List.length_cons, ih h.2]

theorem IsWord.piece {l : List UInt8} (h : IsWord l) : pieceLen l = l.length := by
  have h1 := h.some_
  rw [pieceLen, takeWhile_of_all (dig_of_digits h.digits), List.length_drop, if_neg (by omega)]
  omega

theorem IsWord.read {l : List UInt8} (h : IsWord l) : readOf l = if neg l = 1 then (if 9223372036854775808 < natOf (l.drop (neg l)) then (0, 3) else (-(natOf (l.drop (neg l)) : Int), 0))
    else (if 9223372036854775807 < natOf (l.drop (neg l)) then (0, 3) else ((natOf (l.drop (neg l)) : Int), 0)) := by
  have h1 := h.some_
  rw [readOf, h.piece, if_neg (by omega), valueOf, if_neg]
  rintro ⟨hz, ho⟩
  obtain ⟨e1, e2⟩ := h.zero hz
  rw [List.length_drop] at ho
  omega

theorem read_no_word {l : List UInt8} (h : wordOf l = false) : readOf l = (0, 4) := by
  rw [readOf]
  by_cases hp : pieceLen l = 0 ∨ pieceLen l ≠ l.length
  · rw [if_pos hp]
  · rw [if_neg hp, valueOf, if_pos]
    have hp2 : pieceLen l = l.length := by omega
    have hl : 0 < l.length := by omega
    have hg := piece_gt hp2 hl
    have ha : (l.drop (neg l)).all dig = true := by
      rw [List.all_eq_true]
      intro b hb
      obtain ⟨j, hj, rfl⟩ := List.getElem_of_mem hb
      rw [List.length_drop] at hj
      rw [List.getElem_drop]
      exact piece_digs hp2 hl _ (by omega) (by omega)
    rw [wordOf, decide_eq_true hg, ha] at h
    simp only [Bool.and_self, Bool.true_and, Bool.not_eq_false', Bool.and_eq_true, decide_eq_true_iff] at h
    refine ⟨h.1, ?_⟩
    have hn := neg_le_one l
    by_cases e : neg l = 1
    · exact .inl e
    · right
      have e0 : neg l = 0 := by omega
      rw [e0] at h ⊢
      rw [List.drop_zero] at h ⊢
      obtain ⟨h1, h2⟩ := h
      match l, h1, h2, hl with
      | [b], h1, h2, _ => simp at h1; subst h1; exact absurd rfl h2
      | b :: c :: r, _, _, _ => simp

/-- Are digits less than others, or the same? -/
def lessB (a b : List UInt8) : Bool := decide (a.length < b.length) || (decide (a.length = b.length) && (Op.bytesLess a b || a == b))

theorem lessB_digs (a b : Nat) : lessB (digs a) (digs b) = decide (a ≤ b) := by
  rw [lessB]
  rcases Nat.lt_trichotomy (digs a).length (digs b).length with h | h | h
  · have := digs_len_mono h
    rw [decide_eq_true h, Bool.true_or, eq_comm, decide_eq_true_iff]; omega
  · rw [decide_eq_false (by omega), decide_eq_true h, digs_lex h, Bool.false_or, Bool.true_and]
    have he : (digs a == digs b) = decide (a = b) := by
      by_cases e : a = b
      · subst e; simp
      · rw [decide_eq_false e, beq_eq_false_iff_ne]
        intro h2
        have := congrArg natOf h2
        rw [natOf_digs, natOf_digs] at this
        exact e this
    rw [he, ← Bool.decide_or, decide_eq_decide]
    omega
  · have := digs_len_mono h
    rw [decide_eq_false (by omega), decide_eq_false (by omega), Bool.false_and, Bool.false_or, eq_comm, decide_eq_false_iff_not]; omega

theorem IsWord.digs {l : List UInt8} (h : IsWord l) : digs (natOf (l.drop (neg l))) = l.drop (neg l) := by
  have h1 := h.some_
  refine digs_natOf h.digits (fun e => ?_) (fun hz => ?_)
  · have := congrArg List.length e
    rw [List.length_drop] at this
    simp at this
    omega
  · obtain ⟨e1, e2⟩ := h.zero hz
    rw [List.length_drop]; omega

/-- The digits of 2^63. -/
theorem digs_most : digs 9223372036854775808 = [57, 50, 50, 51, 51, 55, 50, 48, 51, 54, 56, 53, 52, 55, 55, 53, 56, 48, 56] :=
  digs_natOf (l := [57, 50, 50, 51, 51, 55, 50, 48, 51, 54, 56, 53, 52, 55, 55, 53, 56, 48, 56]) (by intro b hb; revert b; decide) (by decide) (by decide)
theorem digs_max : digs 9223372036854775807 = [57, 50, 50, 51, 51, 55, 50, 48, 51, 54, 56, 53, 52, 55, 55, 53, 56, 48, 55] :=
  digs_natOf (l := [57, 50, 50, 51, 51, 55, 50, 48, 51, 54, 56, 53, 52, 55, 55, 53, 56, 48, 55]) (by intro b hb; revert b; decide) (by decide) (by decide)

theorem IsWord.less_most {l : List UInt8} (h : IsWord l) : lessB (l.drop (neg l)) [57, 50, 50, 51, 51, 55, 50, 48, 51, 54, 56, 53, 52, 55, 55, 53, 56, 48, 56] = decide (natOf (l.drop (neg l)) ≤ 9223372036854775808) := by
  rw [← digs_most]
  conv => lhs; rw [← h.digs]
  exact lessB_digs _ _
theorem IsWord.less_max {l : List UInt8} (h : IsWord l) : lessB (l.drop (neg l)) [57, 50, 50, 51, 51, 55, 50, 48, 51, 54, 56, 53, 52, 55, 55, 53, 56, 48, 55] = decide (natOf (l.drop (neg l)) ≤ 9223372036854775807) := by
  rw [← digs_max]
  conv => lhs; rw [← h.digs]
  exact lessB_digs _ _

/-- What the first k signs of a text come to, the '-' apart. -/
def pref (l : List UInt8) (k : Nat) : Nat := natOf ((l.take k).drop (neg l))

theorem pref_zero (l : List UInt8) : pref l 0 = 0 := by simp [pref, natOf]
theorem pref_one {l : List UInt8} (h : neg l = 1) : pref l 1 = 0 := by
  rw [pref, h]
  have : ((l.take 1).drop 1) = [] := List.drop_eq_nil_iff.2 (by simp; omega)
  rw [this]; rfl
theorem pref_step {l : List UInt8} {k : Nat} (hk : k < l.length) (hn : neg l ≤ k) : pref l (k + 1) = 10 * pref l k + (l[k].toNat - 48) := by
  have hlen : (l.take k).length = k := by simp; omega
  rw [pref, List.take_succ_eq_append_getElem hk, List.drop_append_of_le_length (by omega), natOf_snoc]; rfl
theorem pref_le (l : List UInt8) (k : Nat) : pref l k ≤ natOf (l.drop (neg l)) := by
  rw [pref, List.drop_take]
  exact natOf_take_le _ _
theorem pref_end {l : List UInt8} {k : Nat} (h : l.length ≤ k) : pref l k = natOf (l.drop (neg l)) := by
  rw [pref, List.take_of_length_le h]

theorem neg_digs (m : Nat) (b : List UInt8) : neg (digs m ++ b) = 0 := by
  have hp : 0 < (digs m).length := List.length_pos_iff.2 (digs_ne m)
  refine neg_of_dig (by rw [List.length_append]; omega) ?_
  rw [List.getElem_append_left hp]
  have := digs_digits m _ (List.getElem_mem hp)
  omega

theorem print_neg_eq (n : Int) (b : List UInt8) : neg (print n ++ b) = if n < 0 then 1 else 0 := by
  rw [print]
  split
  · rfl
  · exact neg_digs _ _
theorem print_drop (n : Int) (b : List UInt8) : (print n ++ b).drop (neg (print n ++ b)) = digs n.natAbs ++ b := by
  rw [print_neg_eq, print]
  split
  · rfl
  · rfl

theorem takeWhile_stop {p : UInt8 → Bool} {x y : List UInt8} (hx : x.all p = true) (hy : ∀ b, y.head? = some b → p b = false) : (x ++ y).takeWhile p = x := by
  induction x with
  | nil =>
    cases y with
    | nil => rfl
    | cons b r => rw [List.nil_append, List.takeWhile_cons, if_neg (by simp [hy b rfl])]
  | cons b r ih =>
    simp only [List.all_cons, Bool.and_eq_true] at hx
    rw [List.cons_append, List.takeWhile_cons, if_pos hx.1, ih hx.2]

theorem print_len (n : Int) : (print n).length = (if n < 0 then 1 else 0) + (digs n.natAbs).length := by
  rw [print]; split <;> simp <;> omega

theorem print_piece (n : Int) {b : List UInt8} (hb : ∀ c, b.head? = some c → dig c = false) : pieceLen (print n ++ b) = (print n).length := by
  have hp : 0 < (digs n.natAbs).length := List.length_pos_iff.2 (digs_ne _)
  rw [pieceLen, print_drop, takeWhile_stop (dig_of_digits (digs_digits _)) hb, if_neg (by omega), print_neg_eq, print_len]

theorem print_value {n : Int} (h0 : -9223372036854775808 ≤ n) (h1 : n ≤ 9223372036854775807) : valueOf (print n) = (n, 0) := by
  have hd := print_drop n []
  have hn := print_neg_eq n []
  rw [List.append_nil] at hd hn
  rw [List.append_nil] at hd
  rw [valueOf, hd, hn, natOf_digs, if_neg]
  · by_cases h : n < 0
    · rw [if_pos h, if_pos rfl, if_neg (by omega)]; congr 1; omega
    · rw [if_neg h, if_neg (by omega), if_neg (by omega)]; congr 1; omega
  · rintro ⟨hz, ho⟩
    have := digs_head hz
    rw [this] at ho
    simp [digs_small] at ho
    omega

theorem print_read {n : Int} (h0 : -9223372036854775808 ≤ n) (h1 : n ≤ 9223372036854775807) : readOf (print n) = (n, 0) := by
  have hp := print_piece n (b := []) (by simp)
  rw [List.append_nil] at hp
  have hpos : 0 < (print n).length := by
    have := List.length_pos_iff.2 (digs_ne n.natAbs)
    rw [print_len]; omega
  rw [readOf, hp, if_neg (by omega), print_value h0 h1]

theorem read_print {l : List UInt8} (h : (readOf l).2 = 0) : print (readOf l).1 = l ∧ -9223372036854775808 ≤ (readOf l).1 ∧ (readOf l).1 ≤ 9223372036854775807 := by
  cases hw : wordOf l with
  | false => rw [read_no_word hw] at h; exact absurd h (by decide)
  | true =>
    have iw := isWord hw
    have hr := iw.read
    have hdg := iw.digs
    have hn := neg_le_one l
    have hs := iw.some_
    by_cases e : neg l = 1
    · rw [if_pos e] at hr
      by_cases hov : 9223372036854775808 < natOf (l.drop (neg l))
      · rw [hr, if_pos hov] at h; exact absurd h (by decide)
      · rw [hr, if_neg hov]
        have hpos : 0 < natOf (l.drop (neg l)) := by
          rcases Nat.eq_zero_or_pos (natOf (l.drop (neg l))) with hz | hz
          · exfalso
            rw [hz] at hdg
            have := iw.zero (by rw [← hdg]; simp [digs_small])
            omega
          · exact hz
        refine ⟨?_, by omega, by omega⟩
        simp only [print]
        rw [if_pos (by omega), show (-(natOf (l.drop (neg l)) : Int)).natAbs = natOf (l.drop (neg l)) by omega, hdg, e]
        match l, e, hs with
        | b :: r, e, _ =>
          simp only [neg] at e
          have hb : b.toNat = 45 := by
            by_cases hb : b.toNat = 45
            · exact hb
            · rw [if_neg hb] at e; exact absurd e (by decide)
          have : b = 45 := UInt8.toNat_inj.1 hb
          subst this; rfl
    · have e0 : neg l = 0 := by omega
      rw [if_neg e] at hr
      by_cases hov : 9223372036854775807 < natOf (l.drop (neg l))
      · rw [hr, if_pos hov] at h; exact absurd h (by decide)
      · rw [hr, if_neg hov]
        refine ⟨?_, by omega, by omega⟩
        simp only [print]
        rw [if_neg (by omega), show ((natOf (l.drop (neg l)) : Int)).natAbs = natOf (l.drop (neg l)) by omega, hdg, e0]; rfl

end Punnet.Num
end
section
namespace Go.Vm
open Go.RowKit
set_option linter.unusedVariables false
set_option linter.unusedSimpArgs false

section
variable {P : Program} {N : Nat} {t : Tr} {h : Hp} {o : Oper}

/-- What stands at names behind a call. -/
def hpost (h : Hp) : List (Nat × S) → Hp
  | [] => h
  | (n, s) :: l => hset (hpost h l) n s
end
end Go.Vm
end
section
namespace Go.Vm
open Go.RowKit
set_option linter.unusedVariables false
set_option linter.unusedSimpArgs false

section
variable {P : Program} {N : Nat} {t : Tr} {h : Hp} {o : Oper}
/-- A function value that is called. -/
theorem y_callF {f : FuncId} {g : Operand} {xs : Array Operand} {ts : Array TypeId} {ds : List D} {res : List C} {env : Env} (hop : o.op = .call { callee := .value g, args := xs, argTypes := ts }) (hg : vd env g = some (.fn f [])) (hf : enters P f = true) (hx : vargs env xs.toList = some ds) (hc : Contract P f ds res) {d : Nat} (hdst : o.dst = some d) (hd : d < N) : Yield P N o env (resS (res.map (setTok d))) := by
  refine ⟨⟨d, hdst, hd⟩, resS_free _, fun env' he base w0 ro0 ro blk a w hs K Q hK => ?_⟩
  have hx' : vargs env' xs.toList = some ds := by
    rw [← hx]
    refine vargs_agree fun x hm => he.getD ?_
    simp only [hop, Op.operands, Call.operands]
    simp [Array.mem_toList_iff.1 hm]
  obtain ⟨h1, h2⟩ := vargs_rep hs hx'
  have hgr := hs.getD (x := g) (by rw [he.getD (by simp [hop, Op.operands, Call.operands])]; exact hg)
  have hgv : a.eval g = .func (.func f) #[] #[] := by
    generalize hz : a.eval g = z at hgr
    cases hgr with
    | @fn f cap cs hl _ => obtain rfl : cap = #[] := Array.eq_empty_of_size_eq_zero (by simpa using hl); rfl
  unfold Oper.wp
  have hrun : (execOp a.eval o).run P w = .ok (.enter f (xs.map a.eval)) w := by
    unfold enters at hf
    split at hf
    · rename_i fn hfn
      simp only [Bool.and_eq_true, bne_iff_ne, ne_eq] at hf
      cases hbody : fn.body with
      | none => rw [hbody] at hf; simp at hf
      | some c => simp [execOp, hop, resolve, hgv, Deferred.ofValue, invoke, callFunc, hfn, hf.1, hbody]
    · cases hf
  rw [hrun, Oper.upon_enter]
  refine (hc ro w (xs.map a.eval) d hs.new hs.uniq (by simpa using h1) (by simpa using h2)).mono ?_
  rintro e w' ⟨v, ro', rfl, hg, hsat⟩
  exact hK _ _ _ hg fun _ _ => sat_res hs.room hsat
theorem x_callF {f : FuncId} {g : Operand} {xs : Array Operand} {ts : Array TypeId} {ds : List D} {res : List C} {d : Nat} {K : S → Hp → Prop} (hf : enters P f = true) (hc : Contract P f ds res) (hK : K (resS (res.map (setTok d))) h)
    (hop : o.op = .call { callee := .value g, args := xs, argTypes := ts } := by rfl) (hg : vd (envT t h) g = some (.fn f []) := by rfl) (hx : vargs (envT t h) xs.toList = some ds := by rfl) (hd : o.dst = some d := by rfl) (hdN : d < N := by exact Nat.le_of_ble_eq_true rfl) :
    ∃ (s : S) (h' : Hp), Step P N o (envT t h) (upd (envT t h') (some d) s) ∧ K s h' :=
  x_fy (y_callF hop hg hf hx hc hd hdN) hK hd
end

section
variable {P : Program} {N : Nat} {env : Env} {t : Tr} {h : Hp} {o : Oper}
end
end Go.Vm
end
section
namespace Go.Vm
open Go.RowKit
set_option linter.unusedVariables false
set_option linter.unusedSimpArgs false

section
variable {P : Program} {N : Nat} {env : Env} {t : Tr} {h : Hp} {o : Oper}
end

section
variable {P : Program} {t t' : TypeId} {x y : Operand} {k k' yk : IntKind} {a b n c : Int}
end
end Go.Vm
end
section
namespace Go.Vm
set_option linter.unusedVariables false
set_option linter.unusedSimpArgs false

def u64 (n : Int) : Nat := (n % 18446744073709551616).toNat
def i64 (u : Nat) : Int := if u < 9223372036854775808 then (u : Int) else (u : Int) - 18446744073709551616
abbrev inI64 (n : Int) : Prop := -9223372036854775808 ≤ n ∧ n < 9223372036854775808
theorem i64_in {u : Nat} (h : u < 18446744073709551616) : inI64 (i64 u) := by unfold i64; split <;> omega
end Go.Vm
end
section
namespace Go.Vm
set_option linter.unusedVariables false
set_option linter.unusedSimpArgs false

abbrev St := Nat × Bool
variable {b : List UInt8} {f most : Int} {s : St}
end Go.Vm
end
section
namespace Go.Vm.T
open Go.RowKit
set_option linter.unusedVariables false
theorem k_1 : tyOk Go.Proofs.Tryz.prog 1 (.one [.sc .nilFunc]) := ⟨by kernel_rfl, by kernel_rfl⟩
theorem k_2 : tyOk Go.Proofs.Tryz.prog 2 (.one [.sc (.int .i64 0)]) := ⟨by kernel_rfl, by kernel_rfl⟩
theorem k_3 : tyOk Go.Proofs.Tryz.prog 3 (.one [.sc (.int .i64 0)]) := ⟨by kernel_rfl, by kernel_rfl⟩
theorem k_4 : tyOk Go.Proofs.Tryz.prog 4 (.one [.sc (.bool false)]) := ⟨by kernel_rfl, by kernel_rfl⟩
theorem k_5 : tyOk Go.Proofs.Tryz.prog 5 (.one [.sc (.int .u8 0)]) := ⟨by kernel_rfl, by kernel_rfl⟩
theorem k_6 : tyOk Go.Proofs.Tryz.prog 6 (.one [.sc (.int .u8 0)]) := ⟨by kernel_rfl, by kernel_rfl⟩
theorem k_7 : tyOk Go.Proofs.Tryz.prog 7 (.agg [(0, 1), (1, 1), (2, 1), (3, 1)] [.sc (.int .i64 0), .sc (.int .i64 0), .sc (.bool false), .sc (.int .u8 0)]) := ⟨by kernel_rfl, by kernel_rfl, by kernel_rfl⟩
theorem k_8 : tyOk Go.Proofs.Tryz.prog 8 (.agg [(0, 1), (1, 1), (2, 1), (3, 1)] [.sc (.int .i64 0), .sc (.int .i64 0), .sc (.bool false), .sc (.int .u8 0)]) := ⟨by kernel_rfl, by kernel_rfl, by kernel_rfl⟩
theorem k_9 : tyOk Go.Proofs.Tryz.prog 9 (.str) := ⟨by kernel_rfl, by kernel_rfl, by kernel_rfl⟩
theorem k_10 : tyOk Go.Proofs.Tryz.prog 10 (.str) := ⟨by kernel_rfl, by kernel_rfl, by kernel_rfl⟩
theorem k_11 : tyOk Go.Proofs.Tryz.prog 11 (.str) := ⟨by kernel_rfl, by kernel_rfl, by kernel_rfl⟩
theorem k_12 : tyOk Go.Proofs.Tryz.prog 12 (.one [.sc (.int .u64 0)]) := ⟨by kernel_rfl, by kernel_rfl⟩
theorem k_13 : tyOk Go.Proofs.Tryz.prog 13 (.agg [(0, 1), (1, 1)] [.sc (.string ⟨#[]⟩), .sc (.int .u64 0)]) := ⟨by kernel_rfl, by kernel_rfl, by kernel_rfl⟩
theorem k_14 : tyOk Go.Proofs.Tryz.prog 14 (.agg [(0, 1), (1, 1)] [.sc (.string ⟨#[]⟩), .sc (.int .u64 0)]) := ⟨by kernel_rfl, by kernel_rfl, by kernel_rfl⟩
theorem k_15 : tyOk Go.Proofs.Tryz.prog 15 (.one [.sc (.pointer none)]) := ⟨by kernel_rfl, by kernel_rfl⟩
theorem k_16 : tyOk Go.Proofs.Tryz.prog 16 (.one [.sc (.pointer none)]) := ⟨by kernel_rfl, by kernel_rfl⟩
theorem k_17 : tyOk Go.Proofs.Tryz.prog 17 (.one [.sc (.pointer none)]) := ⟨by kernel_rfl, by kernel_rfl⟩
theorem k_18 : tyOk Go.Proofs.Tryz.prog 18 (.agg [(0, 1)] [.sc (.pointer none)]) := ⟨by kernel_rfl, by kernel_rfl, by kernel_rfl⟩
theorem k_19 : tyOk Go.Proofs.Tryz.prog 19 (.agg [(0, 1)] [.sc (.pointer none)]) := ⟨by kernel_rfl, by kernel_rfl, by kernel_rfl⟩
theorem k_21 : tyOk Go.Proofs.Tryz.prog 21 (.one [.sc (.int .i32 0)]) := ⟨by kernel_rfl, by kernel_rfl⟩
theorem k_22 : tyOk Go.Proofs.Tryz.prog 22 (.agg [(0, 1), (1, 1)] [.sc (.int .i64 0), .sc (.int .i64 0)]) := ⟨by kernel_rfl, by kernel_rfl, by kernel_rfl⟩
theorem k_23 : tyOk Go.Proofs.Tryz.prog 23 (.agg [(0, 1), (1, 1)] [.sc (.int .i64 0), .sc (.int .i64 0)]) := ⟨by kernel_rfl, by kernel_rfl, by kernel_rfl⟩
theorem k_24 : tyOk Go.Proofs.Tryz.prog 24 (.agg [(0, 1), (1, 1), (2, 1)] [.sc (.int .i64 0), .sc (.string ⟨#[]⟩), .sc (.string ⟨#[]⟩)]) := ⟨by kernel_rfl, by kernel_rfl, by kernel_rfl⟩
theorem k_25 : tyOk Go.Proofs.Tryz.prog 25 (.agg [(0, 1), (1, 1), (2, 1)] [.sc (.int .i64 0), .sc (.string ⟨#[]⟩), .sc (.string ⟨#[]⟩)]) := ⟨by kernel_rfl, by kernel_rfl, by kernel_rfl⟩
theorem k_26 : tyOk Go.Proofs.Tryz.prog 26 (.slice 9 1 16) := ⟨by kernel_rfl, by kernel_rfl, by kernel_rfl, by kernel_rfl⟩
theorem k_27 : tyOk Go.Proofs.Tryz.prog 27 (.agg [(0, 3), (3, 1), (4, 1), (5, 1), (6, 1)] [.sc (.int .i64 0), .sc (.string ⟨#[]⟩), .sc (.string ⟨#[]⟩), .sc (.int .i64 0), .sc (.string ⟨#[]⟩), .row [], .sc (.int .i64 0)]) := ⟨by kernel_rfl, by kernel_rfl, by kernel_rfl⟩
theorem k_28 : tyOk Go.Proofs.Tryz.prog 28 (.agg [(0, 3), (3, 1), (4, 1), (5, 1), (6, 1)] [.sc (.int .i64 0), .sc (.string ⟨#[]⟩), .sc (.string ⟨#[]⟩), .sc (.int .i64 0), .sc (.string ⟨#[]⟩), .row [], .sc (.int .i64 0)]) := ⟨by kernel_rfl, by kernel_rfl, by kernel_rfl⟩
theorem k_29 : tyOk Go.Proofs.Tryz.prog 29 (.slice 131 2 32) := ⟨by kernel_rfl, by kernel_rfl, by kernel_rfl, by kernel_rfl⟩
theorem k_30 : tyOk Go.Proofs.Tryz.prog 30 (.agg [(0, 1), (1, 3), (4, 1), (5, 1), (6, 1), (7, 7), (14, 1), (15, 1)] [.sc (.int .i64 0), .sc (.int .i64 0), .sc (.string ⟨#[]⟩), .sc (.string ⟨#[]⟩), .sc (.string ⟨#[]⟩), .sc (.string ⟨#[]⟩), .sc (.int .i64 0), .sc (.int .i64 0), .sc (.string ⟨#[]⟩), .sc (.string ⟨#[]⟩), .sc (.int .i64 0), .sc (.string ⟨#[]⟩), .row [], .sc (.int .i64 0), .row [], .row []]) := ⟨by kernel_rfl, by kernel_rfl, by kernel_rfl⟩
theorem k_31 : tyOk Go.Proofs.Tryz.prog 31 (.agg [(0, 1), (1, 3), (4, 1), (5, 1), (6, 1), (7, 7), (14, 1), (15, 1)] [.sc (.int .i64 0), .sc (.int .i64 0), .sc (.string ⟨#[]⟩), .sc (.string ⟨#[]⟩), .sc (.string ⟨#[]⟩), .sc (.string ⟨#[]⟩), .sc (.int .i64 0), .sc (.int .i64 0), .sc (.string ⟨#[]⟩), .sc (.string ⟨#[]⟩), .sc (.int .i64 0), .sc (.string ⟨#[]⟩), .row [], .sc (.int .i64 0), .row [], .row []]) := ⟨by kernel_rfl, by kernel_rfl, by kernel_rfl⟩
theorem k_32 : tyOk Go.Proofs.Tryz.prog 32 (.agg [(0, 2), (2, 2), (4, 16)] [.sc (.int .i64 0), .sc (.int .i64 0), .sc (.int .i64 0), .sc (.int .i64 0), .sc (.int .i64 0), .sc (.int .i64 0), .sc (.string ⟨#[]⟩), .sc (.string ⟨#[]⟩), .sc (.string ⟨#[]⟩), .sc (.string ⟨#[]⟩), .sc (.int .i64 0), .sc (.int .i64 0), .sc (.string ⟨#[]⟩), .sc (.string ⟨#[]⟩), .sc (.int .i64 0), .sc (.string ⟨#[]⟩), .row [], .sc (.int .i64 0), .row [], .row []]) := ⟨by kernel_rfl, by kernel_rfl, by kernel_rfl⟩
theorem k_33 : tyOk Go.Proofs.Tryz.prog 33 (.agg [(0, 2), (2, 2), (4, 16)] [.sc (.int .i64 0), .sc (.int .i64 0), .sc (.int .i64 0), .sc (.int .i64 0), .sc (.int .i64 0), .sc (.int .i64 0), .sc (.string ⟨#[]⟩), .sc (.string ⟨#[]⟩), .sc (.string ⟨#[]⟩), .sc (.string ⟨#[]⟩), .sc (.int .i64 0), .sc (.int .i64 0), .sc (.string ⟨#[]⟩), .sc (.string ⟨#[]⟩), .sc (.int .i64 0), .sc (.string ⟨#[]⟩), .row [], .sc (.int .i64 0), .row [], .row []]) := ⟨by kernel_rfl, by kernel_rfl, by kernel_rfl⟩
theorem k_34 : tyOk Go.Proofs.Tryz.prog 34 (.one [.sc .nilFunc]) := ⟨by kernel_rfl, by kernel_rfl⟩
theorem k_35 : tyOk Go.Proofs.Tryz.prog 35 (.one [.sc .nilFunc]) := ⟨by kernel_rfl, by kernel_rfl⟩
theorem k_36 : tyOk Go.Proofs.Tryz.prog 36 (.one [.sc (.int .i64 0)]) := ⟨by kernel_rfl, by kernel_rfl⟩
theorem k_38 : tyOk Go.Proofs.Tryz.prog 38 (.one [.sc .nilFunc]) := ⟨by kernel_rfl, by kernel_rfl⟩
theorem k_39 : tyOk Go.Proofs.Tryz.prog 39 (.one [.sc .nilFunc]) := ⟨by kernel_rfl, by kernel_rfl⟩
theorem k_41 : tyOk Go.Proofs.Tryz.prog 41 (.one [.sc .nilFunc]) := ⟨by kernel_rfl, by kernel_rfl⟩
theorem k_42 : tyOk Go.Proofs.Tryz.prog 42 (.one [.sc .nilFunc]) := ⟨by kernel_rfl, by kernel_rfl⟩
theorem k_43 : tyOk Go.Proofs.Tryz.prog 43 (.one [.sc .nilFunc]) := ⟨by kernel_rfl, by kernel_rfl⟩
theorem k_45 : tyOk Go.Proofs.Tryz.prog 45 (.one [.sc .nilFunc]) := ⟨by kernel_rfl, by kernel_rfl⟩
theorem k_46 : tyOk Go.Proofs.Tryz.prog 46 (.one [.sc .nilFunc]) := ⟨by kernel_rfl, by kernel_rfl⟩
theorem k_47 : tyOk Go.Proofs.Tryz.prog 47 (.one [.sc .nilFunc]) := ⟨by kernel_rfl, by kernel_rfl⟩
theorem k_49 : tyOk Go.Proofs.Tryz.prog 49 (.one [.sc .nilFunc]) := ⟨by kernel_rfl, by kernel_rfl⟩
theorem k_50 : tyOk Go.Proofs.Tryz.prog 50 (.one [.sc .nilFunc]) := ⟨by kernel_rfl, by kernel_rfl⟩
theorem k_51 : tyOk Go.Proofs.Tryz.prog 51 (.one [.sc .nilFunc]) := ⟨by kernel_rfl, by kernel_rfl⟩
theorem k_53 : tyOk Go.Proofs.Tryz.prog 53 (.one [.sc .nilFunc]) := ⟨by kernel_rfl, by kernel_rfl⟩
theorem k_54 : tyOk Go.Proofs.Tryz.prog 54 (.one [.sc .nilFunc]) := ⟨by kernel_rfl, by kernel_rfl⟩
theorem k_55 : tyOk Go.Proofs.Tryz.prog 55 (.one [.sc .nilFunc]) := ⟨by kernel_rfl, by kernel_rfl⟩
theorem k_56 : tyOk Go.Proofs.Tryz.prog 56 (.one [.sc .nilFunc]) := ⟨by kernel_rfl, by kernel_rfl⟩
theorem k_58 : tyOk Go.Proofs.Tryz.prog 58 (.one [.sc .nilFunc]) := ⟨by kernel_rfl, by kernel_rfl⟩
theorem k_59 : tyOk Go.Proofs.Tryz.prog 59 (.one [.sc .nilFunc]) := ⟨by kernel_rfl, by kernel_rfl⟩
theorem k_60 : tyOk Go.Proofs.Tryz.prog 60 (.one [.sc .nilFunc]) := ⟨by kernel_rfl, by kernel_rfl⟩
theorem k_62 : tyOk Go.Proofs.Tryz.prog 62 (.one [.sc .nilFunc]) := ⟨by kernel_rfl, by kernel_rfl⟩
theorem k_63 : tyOk Go.Proofs.Tryz.prog 63 (.one [.sc .nilFunc]) := ⟨by kernel_rfl, by kernel_rfl⟩
theorem k_64 : tyOk Go.Proofs.Tryz.prog 64 (.slice 28 7 96) := ⟨by kernel_rfl, by kernel_rfl, by kernel_rfl, by kernel_rfl⟩
theorem k_65 : tyOk Go.Proofs.Tryz.prog 65 (.one [.sc .nilFunc]) := ⟨by kernel_rfl, by kernel_rfl⟩
theorem k_67 : tyOk Go.Proofs.Tryz.prog 67 (.one [.sc .nilFunc]) := ⟨by kernel_rfl, by kernel_rfl⟩
theorem k_69 : tyOk Go.Proofs.Tryz.prog 69 (.one [.sc .nilFunc]) := ⟨by kernel_rfl, by kernel_rfl⟩
theorem k_70 : tyOk Go.Proofs.Tryz.prog 70 (.one [.sc .nilFunc]) := ⟨by kernel_rfl, by kernel_rfl⟩
theorem k_71 : tyOk Go.Proofs.Tryz.prog 71 (.one [.sc .nilFunc]) := ⟨by kernel_rfl, by kernel_rfl⟩
theorem k_72 : tyOk Go.Proofs.Tryz.prog 72 (.slice 33 20 264) := ⟨by kernel_rfl, by kernel_rfl, by kernel_rfl, by kernel_rfl⟩
theorem k_73 : tyOk Go.Proofs.Tryz.prog 73 (.one [.sc .nilFunc]) := ⟨by kernel_rfl, by kernel_rfl⟩
theorem k_74 : tyOk Go.Proofs.Tryz.prog 74 (.one [.sc (.pointer none)]) := ⟨by kernel_rfl, by kernel_rfl⟩
theorem k_76 : tyOk Go.Proofs.Tryz.prog 76 (.one [.sc .nilFunc]) := ⟨by kernel_rfl, by kernel_rfl⟩
theorem k_77 : tyOk Go.Proofs.Tryz.prog 77 (.one [.sc .nilFunc]) := ⟨by kernel_rfl, by kernel_rfl⟩
theorem k_78 : tyOk Go.Proofs.Tryz.prog 78 (.one [.sc .nilFunc]) := ⟨by kernel_rfl, by kernel_rfl⟩
theorem k_80 : tyOk Go.Proofs.Tryz.prog 80 (.one [.sc .nilFunc]) := ⟨by kernel_rfl, by kernel_rfl⟩
theorem k_81 : tyOk Go.Proofs.Tryz.prog 81 (.one [.sc .nilFunc]) := ⟨by kernel_rfl, by kernel_rfl⟩
theorem k_82 : tyOk Go.Proofs.Tryz.prog 82 (.one [.sc .nilFunc]) := ⟨by kernel_rfl, by kernel_rfl⟩
theorem k_83 : tyOk Go.Proofs.Tryz.prog 83 (.one [.sc .nilFunc]) := ⟨by kernel_rfl, by kernel_rfl⟩
theorem k_84 : tyOk Go.Proofs.Tryz.prog 84 (.one [.sc .nilFunc]) := ⟨by kernel_rfl, by kernel_rfl⟩
theorem k_85 : tyOk Go.Proofs.Tryz.prog 85 (.slice 23 2 16) := ⟨by kernel_rfl, by kernel_rfl, by kernel_rfl, by kernel_rfl⟩
theorem k_86 : tyOk Go.Proofs.Tryz.prog 86 (.one [.sc .nilFunc]) := ⟨by kernel_rfl, by kernel_rfl⟩
theorem k_88 : tyOk Go.Proofs.Tryz.prog 88 (.one [.sc .nilFunc]) := ⟨by kernel_rfl, by kernel_rfl⟩
theorem k_89 : tyOk Go.Proofs.Tryz.prog 89 (.one [.sc .nilFunc]) := ⟨by kernel_rfl, by kernel_rfl⟩
theorem k_90 : tyOk Go.Proofs.Tryz.prog 90 (.one [.sc .nilFunc]) := ⟨by kernel_rfl, by kernel_rfl⟩
theorem k_91 : tyOk Go.Proofs.Tryz.prog 91 (.one [.sc .nilFunc]) := ⟨by kernel_rfl, by kernel_rfl⟩
theorem k_92 : tyOk Go.Proofs.Tryz.prog 92 (.one [.sc .nilFunc]) := ⟨by kernel_rfl, by kernel_rfl⟩
theorem k_93 : tyOk Go.Proofs.Tryz.prog 93 (.one [.sc .nilFunc]) := ⟨by kernel_rfl, by kernel_rfl⟩
theorem k_94 : tyOk Go.Proofs.Tryz.prog 94 (.one [.sc .nilFunc]) := ⟨by kernel_rfl, by kernel_rfl⟩
theorem k_95 : tyOk Go.Proofs.Tryz.prog 95 (.one [.sc .nilFunc]) := ⟨by kernel_rfl, by kernel_rfl⟩
theorem k_96 : tyOk Go.Proofs.Tryz.prog 96 (.one [.sc .nilFunc]) := ⟨by kernel_rfl, by kernel_rfl⟩
theorem k_97 : tyOk Go.Proofs.Tryz.prog 97 (.one [.sc .nilFunc]) := ⟨by kernel_rfl, by kernel_rfl⟩
theorem k_99 : tyOk Go.Proofs.Tryz.prog 99 (.one [.sc .nilFunc]) := ⟨by kernel_rfl, by kernel_rfl⟩
theorem k_100 : tyOk Go.Proofs.Tryz.prog 100 (.one [.sc .nilFunc]) := ⟨by kernel_rfl, by kernel_rfl⟩
theorem k_101 : tyOk Go.Proofs.Tryz.prog 101 (.one [.sc .nilFunc]) := ⟨by kernel_rfl, by kernel_rfl⟩
theorem k_103 : tyOk Go.Proofs.Tryz.prog 103 (.one [.sc .nilFunc]) := ⟨by kernel_rfl, by kernel_rfl⟩
theorem k_104 : tyOk Go.Proofs.Tryz.prog 104 (.one [.sc .nilFunc]) := ⟨by kernel_rfl, by kernel_rfl⟩
theorem k_105 : tyOk Go.Proofs.Tryz.prog 105 (.one [.sc .nilFunc]) := ⟨by kernel_rfl, by kernel_rfl⟩
theorem k_106 : tyOk Go.Proofs.Tryz.prog 106 (.one [.sc .nilFunc]) := ⟨by kernel_rfl, by kernel_rfl⟩
theorem k_107 : tyOk Go.Proofs.Tryz.prog 107 (.one [.sc .nilFunc]) := ⟨by kernel_rfl, by kernel_rfl⟩
theorem k_108 : tyOk Go.Proofs.Tryz.prog 108 (.one [.sc .nilFunc]) := ⟨by kernel_rfl, by kernel_rfl⟩
theorem k_109 : tyOk Go.Proofs.Tryz.prog 109 (.one [.sc .nilFunc]) := ⟨by kernel_rfl, by kernel_rfl⟩
theorem k_110 : tyOk Go.Proofs.Tryz.prog 110 (.one [.sc .nilFunc]) := ⟨by kernel_rfl, by kernel_rfl⟩
theorem k_111 : tyOk Go.Proofs.Tryz.prog 111 (.one [.sc .nilFunc]) := ⟨by kernel_rfl, by kernel_rfl⟩
theorem k_112 : tyOk Go.Proofs.Tryz.prog 112 (.one [.sc .nilFunc]) := ⟨by kernel_rfl, by kernel_rfl⟩
theorem k_113 : tyOk Go.Proofs.Tryz.prog 113 (.one [.sc .nilFunc]) := ⟨by kernel_rfl, by kernel_rfl⟩
theorem k_114 : tyOk Go.Proofs.Tryz.prog 114 (.one [.sc .nilFunc]) := ⟨by kernel_rfl, by kernel_rfl⟩
theorem k_115 : tyOk Go.Proofs.Tryz.prog 115 (.one [.sc .nilFunc]) := ⟨by kernel_rfl, by kernel_rfl⟩
theorem k_116 : tyOk Go.Proofs.Tryz.prog 116 (.one [.sc .nilFunc]) := ⟨by kernel_rfl, by kernel_rfl⟩
theorem k_118 : tyOk Go.Proofs.Tryz.prog 118 (.one [.sc .nilFunc]) := ⟨by kernel_rfl, by kernel_rfl⟩
theorem k_119 : tyOk Go.Proofs.Tryz.prog 119 (.one [.sc .nilFunc]) := ⟨by kernel_rfl, by kernel_rfl⟩
theorem k_120 : tyOk Go.Proofs.Tryz.prog 120 (.one [.sc .nilFunc]) := ⟨by kernel_rfl, by kernel_rfl⟩
theorem k_121 : tyOk Go.Proofs.Tryz.prog 121 (.one [.sc .nilFunc]) := ⟨by kernel_rfl, by kernel_rfl⟩
theorem k_122 : tyOk Go.Proofs.Tryz.prog 122 (.agg [(0, 20), (20, 1), (21, 1), (22, 1)] [.sc (.int .i64 0), .sc (.int .i64 0), .sc (.int .i64 0), .sc (.int .i64 0), .sc (.int .i64 0), .sc (.int .i64 0), .sc (.string ⟨#[]⟩), .sc (.string ⟨#[]⟩), .sc (.string ⟨#[]⟩), .sc (.string ⟨#[]⟩), .sc (.int .i64 0), .sc (.int .i64 0), .sc (.string ⟨#[]⟩), .sc (.string ⟨#[]⟩), .sc (.int .i64 0), .sc (.string ⟨#[]⟩), .row [], .sc (.int .i64 0), .row [], .row [], .sc (.int .i64 0), .row [], .sc (.int .i64 0)]) := ⟨by kernel_rfl, by kernel_rfl, by kernel_rfl⟩
theorem k_123 : tyOk Go.Proofs.Tryz.prog 123 (.agg [(0, 20), (20, 1), (21, 1), (22, 1)] [.sc (.int .i64 0), .sc (.int .i64 0), .sc (.int .i64 0), .sc (.int .i64 0), .sc (.int .i64 0), .sc (.int .i64 0), .sc (.string ⟨#[]⟩), .sc (.string ⟨#[]⟩), .sc (.string ⟨#[]⟩), .sc (.string ⟨#[]⟩), .sc (.int .i64 0), .sc (.int .i64 0), .sc (.string ⟨#[]⟩), .sc (.string ⟨#[]⟩), .sc (.int .i64 0), .sc (.string ⟨#[]⟩), .row [], .sc (.int .i64 0), .row [], .row [], .sc (.int .i64 0), .row [], .sc (.int .i64 0)]) := ⟨by kernel_rfl, by kernel_rfl, by kernel_rfl⟩
theorem k_124 : tyOk Go.Proofs.Tryz.prog 124 (.one [.sc .nilFunc]) := ⟨by kernel_rfl, by kernel_rfl⟩
theorem k_125 : tyOk Go.Proofs.Tryz.prog 125 (.one [.sc .nilFunc]) := ⟨by kernel_rfl, by kernel_rfl⟩
theorem k_126 : tyOk Go.Proofs.Tryz.prog 126 (.one [.sc (.map none)]) := ⟨by kernel_rfl, by kernel_rfl⟩
theorem k_127 : tyOk Go.Proofs.Tryz.prog 127 (.agg [(0, 1)] [.sc (.map none)]) := ⟨by kernel_rfl, by kernel_rfl, by kernel_rfl⟩
theorem k_128 : tyOk Go.Proofs.Tryz.prog 128 (.agg [(0, 1)] [.sc (.map none)]) := ⟨by kernel_rfl, by kernel_rfl, by kernel_rfl⟩
theorem k_129 : tyOk Go.Proofs.Tryz.prog 129 (.one [.sc .nilFunc]) := ⟨by kernel_rfl, by kernel_rfl⟩
theorem k_130 : tyOk Go.Proofs.Tryz.prog 130 (.agg [(0, 1), (1, 1)] [.sc (.string ⟨#[]⟩), .sc (.string ⟨#[]⟩)]) := ⟨by kernel_rfl, by kernel_rfl, by kernel_rfl⟩
theorem k_131 : tyOk Go.Proofs.Tryz.prog 131 (.agg [(0, 1), (1, 1)] [.sc (.string ⟨#[]⟩), .sc (.string ⟨#[]⟩)]) := ⟨by kernel_rfl, by kernel_rfl, by kernel_rfl⟩
theorem k_132 : tyOk Go.Proofs.Tryz.prog 132 (.one [.sc (.pointer none)]) := ⟨by kernel_rfl, by kernel_rfl⟩
theorem k_133 : tyOk Go.Proofs.Tryz.prog 133 (.slice 5 1 1) := ⟨by kernel_rfl, by kernel_rfl, by kernel_rfl, by kernel_rfl⟩
theorem k_134 : tyOk Go.Proofs.Tryz.prog 134 (.agg [(0, 1), (1, 1)] [.sc (.pointer none), .row []]) := ⟨by kernel_rfl, by kernel_rfl, by kernel_rfl⟩
theorem k_135 : tyOk Go.Proofs.Tryz.prog 135 (.agg [(0, 1), (1, 1)] [.sc (.pointer none), .row []]) := ⟨by kernel_rfl, by kernel_rfl, by kernel_rfl⟩
theorem k_136 : tyOk Go.Proofs.Tryz.prog 136 (.one [.sc .nilFunc]) := ⟨by kernel_rfl, by kernel_rfl⟩
theorem k_140 : tyOk Go.Proofs.Tryz.prog 140 (.one [.sc .nilFunc]) := ⟨by kernel_rfl, by kernel_rfl⟩
theorem k_141 : tyOk Go.Proofs.Tryz.prog 141 (.one [.sc .nilFunc]) := ⟨by kernel_rfl, by kernel_rfl⟩
theorem k_143 : tyOk Go.Proofs.Tryz.prog 143 (.one [.sc .nilFunc]) := ⟨by kernel_rfl, by kernel_rfl⟩
theorem k_145 : tyOk Go.Proofs.Tryz.prog 145 (.one [.sc .nilFunc]) := ⟨by kernel_rfl, by kernel_rfl⟩
theorem k_147 : tyOk Go.Proofs.Tryz.prog 147 (.one [.sc .nilFunc]) := ⟨by kernel_rfl, by kernel_rfl⟩
theorem k_148 : tyOk Go.Proofs.Tryz.prog 148 (.slice 3 1 8) := ⟨by kernel_rfl, by kernel_rfl, by kernel_rfl, by kernel_rfl⟩
theorem k_150 : tyOk Go.Proofs.Tryz.prog 150 (.one [.sc .nilFunc]) := ⟨by kernel_rfl, by kernel_rfl⟩
theorem k_151 : tyOk Go.Proofs.Tryz.prog 151 (.one [.sc .nilFunc]) := ⟨by kernel_rfl, by kernel_rfl⟩
theorem k_153 : tyOk Go.Proofs.Tryz.prog 153 (.one [.sc .nilFunc]) := ⟨by kernel_rfl, by kernel_rfl⟩
theorem k_154 : tyOk Go.Proofs.Tryz.prog 154 (.one [.sc .nilFunc]) := ⟨by kernel_rfl, by kernel_rfl⟩
theorem k_155 : tyOk Go.Proofs.Tryz.prog 155 (.one [.sc .nilFunc]) := ⟨by kernel_rfl, by kernel_rfl⟩
theorem k_156 : tyOk Go.Proofs.Tryz.prog 156 (.one [.sc .nilFunc]) := ⟨by kernel_rfl, by kernel_rfl⟩
theorem k_158 : tyOk Go.Proofs.Tryz.prog 158 (.one [.sc .nilFunc]) := ⟨by kernel_rfl, by kernel_rfl⟩
theorem k_160 : tyOk Go.Proofs.Tryz.prog 160 (.one [.sc .nilFunc]) := ⟨by kernel_rfl, by kernel_rfl⟩
theorem k_162 : tyOk Go.Proofs.Tryz.prog 162 (.one [.sc .nilFunc]) := ⟨by kernel_rfl, by kernel_rfl⟩
theorem k_163 : tyOk Go.Proofs.Tryz.prog 163 (.one [.sc .nilFunc]) := ⟨by kernel_rfl, by kernel_rfl⟩
theorem k_164 : tyOk Go.Proofs.Tryz.prog 164 (.one [.sc .nilFunc]) := ⟨by kernel_rfl, by kernel_rfl⟩
theorem k_165 : tyOk Go.Proofs.Tryz.prog 165 (.one [.sc .nilFunc]) := ⟨by kernel_rfl, by kernel_rfl⟩
theorem k_166 : tyOk Go.Proofs.Tryz.prog 166 (.one [.sc .nilFunc]) := ⟨by kernel_rfl, by kernel_rfl⟩
theorem k_167 : tyOk Go.Proofs.Tryz.prog 167 (.one [.sc .nilFunc]) := ⟨by kernel_rfl, by kernel_rfl⟩
theorem k_168 : tyOk Go.Proofs.Tryz.prog 168 (.one [.sc .nilFunc]) := ⟨by kernel_rfl, by kernel_rfl⟩
theorem k_170 : tyOk Go.Proofs.Tryz.prog 170 (.one [.sc .nilFunc]) := ⟨by kernel_rfl, by kernel_rfl⟩
theorem k_171 : tyOk Go.Proofs.Tryz.prog 171 (.one [.sc .nilFunc]) := ⟨by kernel_rfl, by kernel_rfl⟩
theorem k_172 : tyOk Go.Proofs.Tryz.prog 172 (.one [.sc .nilFunc]) := ⟨by kernel_rfl, by kernel_rfl⟩
theorem k_173 : tyOk Go.Proofs.Tryz.prog 173 (.arr 20 5 1 [.sc (.int .u8 0), .sc (.int .u8 0), .sc (.int .u8 0), .sc (.int .u8 0), .sc (.int .u8 0), .sc (.int .u8 0), .sc (.int .u8 0), .sc (.int .u8 0), .sc (.int .u8 0), .sc (.int .u8 0), .sc (.int .u8 0), .sc (.int .u8 0), .sc (.int .u8 0), .sc (.int .u8 0), .sc (.int .u8 0), .sc (.int .u8 0), .sc (.int .u8 0), .sc (.int .u8 0), .sc (.int .u8 0), .sc (.int .u8 0)]) := ⟨by kernel_rfl, by kernel_rfl, by kernel_rfl⟩
theorem k_174 : tyOk Go.Proofs.Tryz.prog 174 (.one [.sc (.int .u64 0)]) := ⟨by kernel_rfl, by kernel_rfl⟩
theorem k_175 : tyOk Go.Proofs.Tryz.prog 175 (.one [.sc (.pointer none)]) := ⟨by kernel_rfl, by kernel_rfl⟩
theorem k_176 : tyOk Go.Proofs.Tryz.prog 176 (.one [.sc .nilFunc]) := ⟨by kernel_rfl, by kernel_rfl⟩
theorem k_178 : tyOk Go.Proofs.Tryz.prog 178 (.one [.sc .nilFunc]) := ⟨by kernel_rfl, by kernel_rfl⟩
theorem k_180 : tyOk Go.Proofs.Tryz.prog 180 (.one [.sc .nilFunc]) := ⟨by kernel_rfl, by kernel_rfl⟩
theorem k_181 : tyOk Go.Proofs.Tryz.prog 181 (.one [.sc .nilFunc]) := ⟨by kernel_rfl, by kernel_rfl⟩
theorem k_182 : tyOk Go.Proofs.Tryz.prog 182 (.one [.sc .nilFunc]) := ⟨by kernel_rfl, by kernel_rfl⟩
theorem k_183 : tyOk Go.Proofs.Tryz.prog 183 (.one [.sc .nilFunc]) := ⟨by kernel_rfl, by kernel_rfl⟩
theorem k_184 : tyOk Go.Proofs.Tryz.prog 184 (.one [.sc .nilFunc]) := ⟨by kernel_rfl, by kernel_rfl⟩
theorem k_185 : tyOk Go.Proofs.Tryz.prog 185 (.one [.sc .nilFunc]) := ⟨by kernel_rfl, by kernel_rfl⟩
theorem k_186 : tyOk Go.Proofs.Tryz.prog 186 (.one [.sc .nilFunc]) := ⟨by kernel_rfl, by kernel_rfl⟩
theorem k_187 : tyOk Go.Proofs.Tryz.prog 187 (.one [.sc .nilFunc]) := ⟨by kernel_rfl, by kernel_rfl⟩
theorem k_188 : tyOk Go.Proofs.Tryz.prog 188 (.one [.sc (.int .u64 0)]) := ⟨by kernel_rfl, by kernel_rfl⟩
theorem k_189 : tyOk Go.Proofs.Tryz.prog 189 (.one [.sc .nilFunc]) := ⟨by kernel_rfl, by kernel_rfl⟩
theorem k_190 : tyOk Go.Proofs.Tryz.prog 190 (.one [.sc .nilFunc]) := ⟨by kernel_rfl, by kernel_rfl⟩
theorem k_192 : tyOk Go.Proofs.Tryz.prog 192 (.one [.sc .nilFunc]) := ⟨by kernel_rfl, by kernel_rfl⟩
theorem k_193 : tyOk Go.Proofs.Tryz.prog 193 (.one [.sc .nilFunc]) := ⟨by kernel_rfl, by kernel_rfl⟩
theorem k_195 : tyOk Go.Proofs.Tryz.prog 195 (.one [.sc .nilFunc]) := ⟨by kernel_rfl, by kernel_rfl⟩
theorem k_196 : tyOk Go.Proofs.Tryz.prog 196 (.one [.sc .nilFunc]) := ⟨by kernel_rfl, by kernel_rfl⟩
theorem k_197 : tyOk Go.Proofs.Tryz.prog 197 (.one [.sc .nilFunc]) := ⟨by kernel_rfl, by kernel_rfl⟩
theorem k_198 : tyOk Go.Proofs.Tryz.prog 198 (.one [.sc .nilFunc]) := ⟨by kernel_rfl, by kernel_rfl⟩
theorem k_199 : tyOk Go.Proofs.Tryz.prog 199 (.one [.sc .nilFunc]) := ⟨by kernel_rfl, by kernel_rfl⟩
theorem k_201 : tyOk Go.Proofs.Tryz.prog 201 (.one [.sc .nilFunc]) := ⟨by kernel_rfl, by kernel_rfl⟩
theorem k_202 : tyOk Go.Proofs.Tryz.prog 202 (.one [.sc .nilFunc]) := ⟨by kernel_rfl, by kernel_rfl⟩
theorem k_203 : tyOk Go.Proofs.Tryz.prog 203 (.slice 25 3 40) := ⟨by kernel_rfl, by kernel_rfl, by kernel_rfl, by kernel_rfl⟩
theorem k_204 : tyOk Go.Proofs.Tryz.prog 204 (.one [.sc .nilFunc]) := ⟨by kernel_rfl, by kernel_rfl⟩
theorem k_205 : tyOk Go.Proofs.Tryz.prog 205 (.one [.sc .nilFunc]) := ⟨by kernel_rfl, by kernel_rfl⟩
theorem k_206 : tyOk Go.Proofs.Tryz.prog 206 (.one [.sc .nilFunc]) := ⟨by kernel_rfl, by kernel_rfl⟩
theorem k_207 : tyOk Go.Proofs.Tryz.prog 207 (.one [.sc .nilFunc]) := ⟨by kernel_rfl, by kernel_rfl⟩
theorem k_208 : tyOk Go.Proofs.Tryz.prog 208 (.one [.sc (.int .i64 0)]) := ⟨by kernel_rfl, by kernel_rfl⟩
theorem k_210 : tyOk Go.Proofs.Tryz.prog 210 (.one [.sc .nilFunc]) := ⟨by kernel_rfl, by kernel_rfl⟩
theorem k_211 : tyOk Go.Proofs.Tryz.prog 211 (.one [.sc .nilFunc]) := ⟨by kernel_rfl, by kernel_rfl⟩
theorem k_212 : tyOk Go.Proofs.Tryz.prog 212 (.one [.sc .nilFunc]) := ⟨by kernel_rfl, by kernel_rfl⟩
theorem k_214 : tyOk Go.Proofs.Tryz.prog 214 (.one [.sc .nilFunc]) := ⟨by kernel_rfl, by kernel_rfl⟩
theorem k_215 : tyOk Go.Proofs.Tryz.prog 215 (.one [.sc .nilFunc]) := ⟨by kernel_rfl, by kernel_rfl⟩
theorem k_216 : tyOk Go.Proofs.Tryz.prog 216 (.one [.sc (.int .u32 0)]) := ⟨by kernel_rfl, by kernel_rfl⟩
theorem k_217 : tyOk Go.Proofs.Tryz.prog 217 (.one [.sc .nilFunc]) := ⟨by kernel_rfl, by kernel_rfl⟩
theorem k_219 : tyOk Go.Proofs.Tryz.prog 219 (.one [.sc .nilFunc]) := ⟨by kernel_rfl, by kernel_rfl⟩
theorem k_221 : tyOk Go.Proofs.Tryz.prog 221 (.one [.sc .nilFunc]) := ⟨by kernel_rfl, by kernel_rfl⟩
theorem k_222 : tyOk Go.Proofs.Tryz.prog 222 (.one [.sc .nilFunc]) := ⟨by kernel_rfl, by kernel_rfl⟩
theorem k_223 : tyOk Go.Proofs.Tryz.prog 223 (.one [.sc .nilFunc]) := ⟨by kernel_rfl, by kernel_rfl⟩
theorem k_224 : tyOk Go.Proofs.Tryz.prog 224 (.one [.sc .nilFunc]) := ⟨by kernel_rfl, by kernel_rfl⟩
theorem k_225 : tyOk Go.Proofs.Tryz.prog 225 (.one [.sc .nilFunc]) := ⟨by kernel_rfl, by kernel_rfl⟩
theorem k_226 : tyOk Go.Proofs.Tryz.prog 226 (.one [.sc (.int .u64 0)]) := ⟨by kernel_rfl, by kernel_rfl⟩
theorem k_227 : tyOk Go.Proofs.Tryz.prog 227 (.one [.sc .nilFunc]) := ⟨by kernel_rfl, by kernel_rfl⟩
theorem k_228 : tyOk Go.Proofs.Tryz.prog 228 (.one [.sc .nilFunc]) := ⟨by kernel_rfl, by kernel_rfl⟩
theorem k_229 : tyOk Go.Proofs.Tryz.prog 229 (.one [.sc .nilFunc]) := ⟨by kernel_rfl, by kernel_rfl⟩
theorem k_230 : tyOk Go.Proofs.Tryz.prog 230 (.one [.sc (.pointer none)]) := ⟨by kernel_rfl, by kernel_rfl⟩
theorem k_231 : tyOk Go.Proofs.Tryz.prog 231 (.one [.sc .nilFunc]) := ⟨by kernel_rfl, by kernel_rfl⟩
theorem k_232 : tyOk Go.Proofs.Tryz.prog 232 (.one [.sc .nilFunc]) := ⟨by kernel_rfl, by kernel_rfl⟩
theorem k_233 : tyOk Go.Proofs.Tryz.prog 233 (.one [.sc .nilFunc]) := ⟨by kernel_rfl, by kernel_rfl⟩
theorem k_234 : tyOk Go.Proofs.Tryz.prog 234 (.one [.sc (.pointer none)]) := ⟨by kernel_rfl, by kernel_rfl⟩
theorem k_235 : tyOk Go.Proofs.Tryz.prog 235 (.one [.sc .nilFunc]) := ⟨by kernel_rfl, by kernel_rfl⟩
theorem k_237 : tyOk Go.Proofs.Tryz.prog 237 (.one [.sc .nilFunc]) := ⟨by kernel_rfl, by kernel_rfl⟩
theorem k_238 : tyOk Go.Proofs.Tryz.prog 238 (.arrB 256 5 1) := ⟨by kernel_rfl, by kernel_rfl⟩
theorem k_239 : tyOk Go.Proofs.Tryz.prog 239 (.agg [(0, 1), (1, 1)] [.sc (.int .u8 0), .sc (.int .u8 0)]) := ⟨by kernel_rfl, by kernel_rfl, by kernel_rfl⟩
theorem k_240 : tyOk Go.Proofs.Tryz.prog 240 (.agg [(0, 1), (1, 1)] [.sc (.int .u8 0), .sc (.int .u8 0)]) := ⟨by kernel_rfl, by kernel_rfl, by kernel_rfl⟩
theorem k_241 : tyOk Go.Proofs.Tryz.prog 241 (.arr 16 240 2 [.sc (.int .u8 0), .sc (.int .u8 0), .sc (.int .u8 0), .sc (.int .u8 0), .sc (.int .u8 0), .sc (.int .u8 0), .sc (.int .u8 0), .sc (.int .u8 0), .sc (.int .u8 0), .sc (.int .u8 0), .sc (.int .u8 0), .sc (.int .u8 0), .sc (.int .u8 0), .sc (.int .u8 0), .sc (.int .u8 0), .sc (.int .u8 0), .sc (.int .u8 0), .sc (.int .u8 0), .sc (.int .u8 0), .sc (.int .u8 0), .sc (.int .u8 0), .sc (.int .u8 0), .sc (.int .u8 0), .sc (.int .u8 0), .sc (.int .u8 0), .sc (.int .u8 0), .sc (.int .u8 0), .sc (.int .u8 0), .sc (.int .u8 0), .sc (.int .u8 0), .sc (.int .u8 0), .sc (.int .u8 0)]) := ⟨by kernel_rfl, by kernel_rfl, by kernel_rfl⟩
theorem k_242 : tyOk Go.Proofs.Tryz.prog 242 (.agg [(0, 1), (1, 1), (2, 1), (3, 1)] [.sc (.pointer none), .sc (.pointer none), .sc (.pointer none), .sc (.string ⟨#[]⟩)]) := ⟨by kernel_rfl, by kernel_rfl, by kernel_rfl⟩
theorem k_243 : tyOk Go.Proofs.Tryz.prog 243 (.agg [(0, 1), (1, 1), (2, 1), (3, 1)] [.sc (.pointer none), .sc (.pointer none), .sc (.pointer none), .sc (.string ⟨#[]⟩)]) := ⟨by kernel_rfl, by kernel_rfl, by kernel_rfl⟩
theorem k_244 : tyOk Go.Proofs.Tryz.prog 244 (.arr 0 16 1 []) := ⟨by kernel_rfl, by kernel_rfl, by kernel_rfl⟩
theorem k_245 : tyOk Go.Proofs.Tryz.prog 245 (.agg [(0, 0)] []) := ⟨by kernel_rfl, by kernel_rfl, by kernel_rfl⟩
theorem k_246 : tyOk Go.Proofs.Tryz.prog 246 (.agg [(0, 0)] []) := ⟨by kernel_rfl, by kernel_rfl, by kernel_rfl⟩
theorem k_247 : tyOk Go.Proofs.Tryz.prog 247 (.one [.sc .nilFunc]) := ⟨by kernel_rfl, by kernel_rfl⟩
theorem k_248 : tyOk Go.Proofs.Tryz.prog 248 (.one [.sc (.int .u8 0)]) := ⟨by kernel_rfl, by kernel_rfl⟩
theorem k_249 : tyOk Go.Proofs.Tryz.prog 249 (.one [.sc (.int .u8 0)]) := ⟨by kernel_rfl, by kernel_rfl⟩
theorem k_250 : tyOk Go.Proofs.Tryz.prog 250 (.one [.sc .nilFunc]) := ⟨by kernel_rfl, by kernel_rfl⟩
theorem k_251 : tyOk Go.Proofs.Tryz.prog 251 (.one [.sc (.int .i32 0)]) := ⟨by kernel_rfl, by kernel_rfl⟩
theorem k_252 : tyOk Go.Proofs.Tryz.prog 252 (.one [.sc (.int .i32 0)]) := ⟨by kernel_rfl, by kernel_rfl⟩
theorem k_253 : tyOk Go.Proofs.Tryz.prog 253 (.agg [(0, 1), (1, 1), (2, 1), (3, 1), (4, 1), (5, 1), (6, 1), (7, 1), (8, 1), (9, 1), (10, 1)] [.sc (.int .u64 0), .sc (.int .u64 0), .sc (.int .u32 0), .sc (.int .u8 0), .sc (.int .u8 0), .sc (.int .u8 0), .sc (.int .u8 0), .sc .nilFunc, .sc (.pointer none), .sc (.int .i32 0), .sc (.int .i32 0)]) := ⟨by kernel_rfl, by kernel_rfl, by kernel_rfl⟩
theorem k_254 : tyOk Go.Proofs.Tryz.prog 254 (.agg [(0, 1), (1, 1), (2, 1), (3, 1), (4, 1), (5, 1), (6, 1), (7, 1), (8, 1), (9, 1), (10, 1)] [.sc (.int .u64 0), .sc (.int .u64 0), .sc (.int .u32 0), .sc (.int .u8 0), .sc (.int .u8 0), .sc (.int .u8 0), .sc (.int .u8 0), .sc .nilFunc, .sc (.pointer none), .sc (.int .i32 0), .sc (.int .i32 0)]) := ⟨by kernel_rfl, by kernel_rfl, by kernel_rfl⟩
def tt : TT := .node (none) (.node (some (.one [.sc .nilFunc])) (.node (some (.one [.sc (.int .i64 0)])) (.node (some (.agg [(0, 1), (1, 1), (2, 1), (3, 1)] [.sc (.int .i64 0), .sc (.int .i64 0), .sc (.bool false), .sc (.int .u8 0)])) (.node (some (.one [.sc (.pointer none)])) (.node (some (.agg [(0, 1), (1, 3), (4, 1), (5, 1), (6, 1), (7, 7), (14, 1), (15, 1)] [.sc (.int .i64 0), .sc (.int .i64 0), .sc (.string ⟨#[]⟩), .sc (.string ⟨#[]⟩), .sc (.string ⟨#[]⟩), .sc (.string ⟨#[]⟩), .sc (.int .i64 0), .sc (.int .i64 0), .sc (.string ⟨#[]⟩), .sc (.string ⟨#[]⟩), .sc (.int .i64 0), .sc (.string ⟨#[]⟩), .row [], .sc (.int .i64 0), .row [], .row []])) (.node (some (.one [.sc .nilFunc])) (.node (some (.agg [(0, 1)] [.sc (.map none)])) (.leaf) (.leaf)) (.leaf)) (.node (some (.one [.sc .nilFunc])) (.leaf) (.node (some (.one [.sc .nilFunc])) (.leaf) (.leaf)))) (.node (some (.one [.sc .nilFunc])) (.node (none) (.node (some (.one [.sc .nilFunc])) (.leaf) (.leaf)) (.node (some (.one [.sc .nilFunc])) (.leaf) (.leaf))) (.node (some (.one [.sc .nilFunc])) (.node (some (.one [.sc (.pointer none)])) (.leaf) (.leaf)) (.node (some (.agg [(0, 1), (1, 1)] [.sc (.int .u8 0), .sc (.int .u8 0)])) (.leaf) (.leaf))))) (.node (some (.agg [(0, 1), (1, 1)] [.sc (.int .i64 0), .sc (.int .i64 0)])) (.node (some (.one [.sc .nilFunc])) (.node (some (.one [.sc .nilFunc])) (.node (some (.agg [(0, 1), (1, 1)] [.sc (.pointer none), .row []])) (.leaf) (.leaf)) (.node (some (.one [.sc .nilFunc])) (.leaf) (.leaf))) (.node (some (.one [.sc .nilFunc])) (.node (some (.one [.sc .nilFunc])) (.leaf) (.leaf)) (.node (some (.one [.sc .nilFunc])) (.leaf) (.leaf)))) (.node (some (.one [.sc .nilFunc])) (.node (none) (.node (some (.one [.sc .nilFunc])) (.leaf) (.leaf)) (.node (some (.one [.sc .nilFunc])) (.leaf) (.leaf))) (.node (some (.one [.sc .nilFunc])) (.node (some (.one [.sc .nilFunc])) (.leaf) (.leaf)) (.node (some (.one [.sc .nilFunc])) (.leaf) (.leaf)))))) (.node (some (.str)) (.node (some (.agg [(0, 1)] [.sc (.pointer none)])) (.node (some (.one [.sc .nilFunc])) (.node (some (.one [.sc .nilFunc])) (.node (some (.agg [(0, 1), (1, 1)] [.sc (.string ⟨#[]⟩), .sc (.string ⟨#[]⟩)])) (.leaf) (.leaf)) (.node (some (.one [.sc .nilFunc])) (.leaf) (.leaf))) (.node (some (.one [.sc .nilFunc])) (.node (some (.one [.sc .nilFunc])) (.leaf) (.leaf)) (.node (some (.one [.sc .nilFunc])) (.leaf) (.leaf)))) (.node (some (.one [.sc .nilFunc])) (.node (some (.one [.sc .nilFunc])) (.node (some (.one [.sc .nilFunc])) (.leaf) (.leaf)) (.node (some (.one [.sc .nilFunc])) (.leaf) (.leaf))) (.node (some (.one [.sc .nilFunc])) (.leaf) (.node (some (.agg [(0, 1), (1, 1), (2, 1), (3, 1)] [.sc (.pointer none), .sc (.pointer none), .sc (.pointer none), .sc (.string ⟨#[]⟩)])) (.leaf) (.leaf))))) (.node (some (.agg [(0, 3), (3, 1), (4, 1), (5, 1), (6, 1)] [.sc (.int .i64 0), .sc (.string ⟨#[]⟩), .sc (.string ⟨#[]⟩), .sc (.int .i64 0), .sc (.string ⟨#[]⟩), .row [], .sc (.int .i64 0)])) (.node (some (.one [.sc .nilFunc])) (.node (none) (.leaf) (.node (some (.slice 25 3 40)) (.leaf) (.leaf))) (.node (some (.one [.sc .nilFunc])) (.node (some (.one [.sc .nilFunc])) (.leaf) (.leaf)) (.node (some (.one [.sc .nilFunc])) (.leaf) (.leaf)))) (.node (some (.one [.sc .nilFunc])) (.node (some (.one [.sc .nilFunc])) (.node (some (.one [.sc .nilFunc])) (.leaf) (.leaf)) (.node (some (.one [.sc .nilFunc])) (.leaf) (.leaf))) (.node (some (.agg [(0, 20), (20, 1), (21, 1), (22, 1)] [.sc (.int .i64 0), .sc (.int .i64 0), .sc (.int .i64 0), .sc (.int .i64 0), .sc (.int .i64 0), .sc (.int .i64 0), .sc (.string ⟨#[]⟩), .sc (.string ⟨#[]⟩), .sc (.string ⟨#[]⟩), .sc (.string ⟨#[]⟩), .sc (.int .i64 0), .sc (.int .i64 0), .sc (.string ⟨#[]⟩), .sc (.string ⟨#[]⟩), .sc (.int .i64 0), .sc (.string ⟨#[]⟩), .row [], .sc (.int .i64 0), .row [], .row [], .sc (.int .i64 0), .row [], .sc (.int .i64 0)])) (.node (some (.one [.sc .nilFunc])) (.leaf) (.leaf)) (.node (some (.one [.sc (.int .i32 0)])) (.leaf) (.leaf))))))) (.node (some (.one [.sc (.int .u8 0)])) (.node (some (.str)) (.node (some (.one [.sc (.pointer none)])) (.node (some (.agg [(0, 2), (2, 2), (4, 16)] [.sc (.int .i64 0), .sc (.int .i64 0), .sc (.int .i64 0), .sc (.int .i64 0), .sc (.int .i64 0), .sc (.int .i64 0), .sc (.string ⟨#[]⟩), .sc (.string ⟨#[]⟩), .sc (.string ⟨#[]⟩), .sc (.string ⟨#[]⟩), .sc (.int .i64 0), .sc (.int .i64 0), .sc (.string ⟨#[]⟩), .sc (.string ⟨#[]⟩), .sc (.int .i64 0), .sc (.string ⟨#[]⟩), .row [], .sc (.int .i64 0), .row [], .row []])) (.node (some (.one [.sc .nilFunc])) (.node (some (.one [.sc .nilFunc])) (.leaf) (.leaf)) (.node (some (.one [.sc .nilFunc])) (.leaf) (.leaf))) (.node (some (.one [.sc .nilFunc])) (.leaf) (.node (some (.one [.sc .nilFunc])) (.leaf) (.leaf)))) (.node (some (.one [.sc .nilFunc])) (.node (some (.one [.sc .nilFunc])) (.node (some (.one [.sc .nilFunc])) (.leaf) (.leaf)) (.leaf)) (.node (some (.one [.sc .nilFunc])) (.leaf) (.node (some (.arr 16 240 2 [.sc (.int .u8 0), .sc (.int .u8 0), .sc (.int .u8 0), .sc (.int .u8 0), .sc (.int .u8 0), .sc (.int .u8 0), .sc (.int .u8 0), .sc (.int .u8 0), .sc (.int .u8 0), .sc (.int .u8 0), .sc (.int .u8 0), .sc (.int .u8 0), .sc (.int .u8 0), .sc (.int .u8 0), .sc (.int .u8 0), .sc (.int .u8 0), .sc (.int .u8 0), .sc (.int .u8 0), .sc (.int .u8 0), .sc (.int .u8 0), .sc (.int .u8 0), .sc (.int .u8 0), .sc (.int .u8 0), .sc (.int .u8 0), .sc (.int .u8 0), .sc (.int .u8 0), .sc (.int .u8 0), .sc (.int .u8 0), .sc (.int .u8 0), .sc (.int .u8 0), .sc (.int .u8 0), .sc (.int .u8 0)])) (.leaf) (.leaf))))) (.node (some (.agg [(0, 1), (1, 1), (2, 1)] [.sc (.int .i64 0), .sc (.string ⟨#[]⟩), .sc (.string ⟨#[]⟩)])) (.node (some (.one [.sc .nilFunc])) (.node (some (.one [.sc .nilFunc])) (.leaf) (.node (some (.one [.sc .nilFunc])) (.leaf) (.leaf))) (.node (some (.one [.sc .nilFunc])) (.leaf) (.node (some (.one [.sc .nilFunc])) (.leaf) (.leaf)))) (.node (none) (.node (some (.one [.sc .nilFunc])) (.node (some (.one [.sc .nilFunc])) (.leaf) (.leaf)) (.node (some (.one [.sc .nilFunc])) (.leaf) (.leaf))) (.node (some (.one [.sc .nilFunc])) (.node (some (.one [.sc .nilFunc])) (.leaf) (.leaf)) (.node (some (.one [.sc (.int .u8 0)])) (.leaf) (.leaf)))))) (.node (some (.agg [(0, 1), (1, 1)] [.sc (.string ⟨#[]⟩), .sc (.int .u64 0)])) (.node (some (.one [.sc (.int .i32 0)])) (.node (none) (.node (some (.one [.sc .nilFunc])) (.node (some (.slice 5 1 1)) (.leaf) (.leaf)) (.node (some (.one [.sc .nilFunc])) (.leaf) (.leaf))) (.node (some (.one [.sc .nilFunc])) (.node (some (.one [.sc .nilFunc])) (.leaf) (.leaf)) (.node (some (.one [.sc .nilFunc])) (.leaf) (.leaf)))) (.node (some (.one [.sc .nilFunc])) (.node (some (.slice 23 2 16)) (.leaf) (.leaf)) (.node (none) (.node (some (.one [.sc .nilFunc])) (.leaf) (.leaf)) (.node (some (.agg [(0, 0)] [])) (.leaf) (.leaf))))) (.node (some (.slice 131 2 32)) (.node (some (.one [.sc .nilFunc])) (.node (some (.one [.sc .nilFunc])) (.node (some (.one [.sc .nilFunc])) (.leaf) (.leaf)) (.node (some (.one [.sc .nilFunc])) (.leaf) (.leaf))) (.node (some (.one [.sc .nilFunc])) (.node (some (.arr 20 5 1 [.sc (.int .u8 0), .sc (.int .u8 0), .sc (.int .u8 0), .sc (.int .u8 0), .sc (.int .u8 0), .sc (.int .u8 0), .sc (.int .u8 0), .sc (.int .u8 0), .sc (.int .u8 0), .sc (.int .u8 0), .sc (.int .u8 0), .sc (.int .u8 0), .sc (.int .u8 0), .sc (.int .u8 0), .sc (.int .u8 0), .sc (.int .u8 0), .sc (.int .u8 0), .sc (.int .u8 0), .sc (.int .u8 0), .sc (.int .u8 0)])) (.leaf) (.leaf)) (.node (some (.one [.sc .nilFunc])) (.leaf) (.leaf)))) (.node (none) (.node (some (.one [.sc .nilFunc])) (.leaf) (.node (some (.one [.sc .nilFunc])) (.leaf) (.leaf))) (.node (some (.one [.sc .nilFunc])) (.node (some (.one [.sc .nilFunc])) (.leaf) (.leaf)) (.node (some (.agg [(0, 1), (1, 1), (2, 1), (3, 1), (4, 1), (5, 1), (6, 1), (7, 1), (8, 1), (9, 1), (10, 1)] [.sc (.int .u64 0), .sc (.int .u64 0), .sc (.int .u32 0), .sc (.int .u8 0), .sc (.int .u8 0), .sc (.int .u8 0), .sc (.int .u8 0), .sc .nilFunc, .sc (.pointer none), .sc (.int .i32 0), .sc (.int .i32 0)])) (.leaf) (.leaf)))))))) (.node (some (.one [.sc (.int .i64 0)])) (.node (some (.one [.sc (.bool false)])) (.node (some (.agg [(0, 1), (1, 1), (2, 1), (3, 1)] [.sc (.int .i64 0), .sc (.int .i64 0), .sc (.bool false), .sc (.int .u8 0)])) (.node (some (.one [.sc (.pointer none)])) (.node (some (.agg [(0, 2), (2, 2), (4, 16)] [.sc (.int .i64 0), .sc (.int .i64 0), .sc (.int .i64 0), .sc (.int .i64 0), .sc (.int .i64 0), .sc (.int .i64 0), .sc (.string ⟨#[]⟩), .sc (.string ⟨#[]⟩), .sc (.string ⟨#[]⟩), .sc (.string ⟨#[]⟩), .sc (.int .i64 0), .sc (.int .i64 0), .sc (.string ⟨#[]⟩), .sc (.string ⟨#[]⟩), .sc (.int .i64 0), .sc (.string ⟨#[]⟩), .row [], .sc (.int .i64 0), .row [], .row []])) (.node (some (.slice 28 7 96)) (.node (some (.agg [(0, 1)] [.sc (.map none)])) (.leaf) (.leaf)) (.node (some (.one [.sc .nilFunc])) (.leaf) (.leaf))) (.node (some (.one [.sc .nilFunc])) (.node (some (.one [.sc .nilFunc])) (.leaf) (.leaf)) (.node (some (.one [.sc .nilFunc])) (.leaf) (.leaf)))) (.node (none) (.node (some (.one [.sc .nilFunc])) (.leaf) (.node (some (.one [.sc (.int .i64 0)])) (.leaf) (.leaf))) (.node (some (.one [.sc .nilFunc])) (.node (some (.one [.sc .nilFunc])) (.leaf) (.leaf)) (.node (some (.agg [(0, 1), (1, 1)] [.sc (.int .u8 0), .sc (.int .u8 0)])) (.leaf) (.leaf))))) (.node (some (.agg [(0, 1), (1, 1), (2, 1)] [.sc (.int .i64 0), .sc (.string ⟨#[]⟩), .sc (.string ⟨#[]⟩)])) (.node (none) (.node (some (.slice 33 20 264)) (.node (some (.one [.sc .nilFunc])) (.leaf) (.leaf)) (.leaf)) (.node (some (.one [.sc .nilFunc])) (.node (some (.one [.sc .nilFunc])) (.leaf) (.leaf)) (.node (some (.one [.sc .nilFunc])) (.leaf) (.leaf)))) (.node (some (.one [.sc .nilFunc])) (.node (some (.one [.sc .nilFunc])) (.leaf) (.node (some (.one [.sc (.int .u32 0)])) (.leaf) (.leaf))) (.node (some (.one [.sc .nilFunc])) (.node (some (.one [.sc .nilFunc])) (.leaf) (.leaf)) (.node (some (.one [.sc (.int .u8 0)])) (.leaf) (.leaf)))))) (.node (some (.one [.sc (.int .u64 0)])) (.node (none) (.node (some (.one [.sc (.int .i64 0)])) (.node (none) (.node (some (.one [.sc (.pointer none)])) (.leaf) (.leaf)) (.node (some (.one [.sc .nilFunc])) (.leaf) (.leaf))) (.node (some (.one [.sc .nilFunc])) (.node (some (.one [.sc .nilFunc])) (.leaf) (.leaf)) (.node (some (.one [.sc .nilFunc])) (.leaf) (.leaf)))) (.node (none) (.node (some (.one [.sc .nilFunc])) (.node (some (.slice 3 1 8)) (.leaf) (.leaf)) (.node (some (.one [.sc .nilFunc])) (.leaf) (.leaf))) (.node (some (.one [.sc .nilFunc])) (.node (some (.one [.sc .nilFunc])) (.leaf) (.leaf)) (.node (some (.arr 0 16 1 [])) (.leaf) (.leaf))))) (.node (some (.agg [(0, 3), (3, 1), (4, 1), (5, 1), (6, 1)] [.sc (.int .i64 0), .sc (.string ⟨#[]⟩), .sc (.string ⟨#[]⟩), .sc (.int .i64 0), .sc (.string ⟨#[]⟩), .row [], .sc (.int .i64 0)])) (.node (none) (.node (some (.one [.sc .nilFunc])) (.node (some (.one [.sc .nilFunc])) (.leaf) (.leaf)) (.node (some (.one [.sc .nilFunc])) (.leaf) (.leaf))) (.node (some (.one [.sc .nilFunc])) (.node (some (.one [.sc .nilFunc])) (.leaf) (.leaf)) (.leaf))) (.node (some (.one [.sc .nilFunc])) (.node (some (.one [.sc .nilFunc])) (.node (some (.one [.sc .nilFunc])) (.leaf) (.leaf)) (.leaf)) (.node (some (.one [.sc .nilFunc])) (.node (some (.one [.sc (.int .u64 0)])) (.leaf) (.leaf)) (.node (some (.one [.sc (.int .i32 0)])) (.leaf) (.leaf))))))) (.node (some (.one [.sc (.int .u8 0)])) (.node (some (.str)) (.node (some (.agg [(0, 1)] [.sc (.pointer none)])) (.node (some (.one [.sc .nilFunc])) (.node (none) (.node (some (.agg [(0, 1), (1, 1)] [.sc (.string ⟨#[]⟩), .sc (.string ⟨#[]⟩)])) (.leaf) (.leaf)) (.leaf)) (.node (none) (.node (some (.one [.sc .nilFunc])) (.leaf) (.leaf)) (.node (some (.one [.sc (.int .u64 0)])) (.leaf) (.leaf)))) (.node (some (.one [.sc .nilFunc])) (.node (some (.one [.sc .nilFunc])) (.leaf) (.node (some (.one [.sc .nilFunc])) (.leaf) (.leaf))) (.node (some (.one [.sc .nilFunc])) (.node (some (.one [.sc .nilFunc])) (.leaf) (.leaf)) (.node (some (.agg [(0, 1), (1, 1), (2, 1), (3, 1)] [.sc (.pointer none), .sc (.pointer none), .sc (.pointer none), .sc (.string ⟨#[]⟩)])) (.leaf) (.leaf))))) (.node (some (.slice 9 1 16)) (.node (some (.one [.sc .nilFunc])) (.node (some (.one [.sc (.pointer none)])) (.leaf) (.node (some (.one [.sc .nilFunc])) (.leaf) (.leaf))) (.node (some (.one [.sc .nilFunc])) (.node (some (.one [.sc .nilFunc])) (.leaf) (.leaf)) (.node (some (.one [.sc (.pointer none)])) (.leaf) (.leaf)))) (.node (some (.one [.sc .nilFunc])) (.node (some (.one [.sc .nilFunc])) (.node (some (.one [.sc .nilFunc])) (.leaf) (.leaf)) (.leaf)) (.node (some (.agg [(0, 20), (20, 1), (21, 1), (22, 1)] [.sc (.int .i64 0), .sc (.int .i64 0), .sc (.int .i64 0), .sc (.int .i64 0), .sc (.int .i64 0), .sc (.int .i64 0), .sc (.string ⟨#[]⟩), .sc (.string ⟨#[]⟩), .sc (.string ⟨#[]⟩), .sc (.string ⟨#[]⟩), .sc (.int .i64 0), .sc (.int .i64 0), .sc (.string ⟨#[]⟩), .sc (.string ⟨#[]⟩), .sc (.int .i64 0), .sc (.string ⟨#[]⟩), .row [], .sc (.int .i64 0), .row [], .row [], .sc (.int .i64 0), .row [], .sc (.int .i64 0)])) (.node (some (.one [.sc .nilFunc])) (.leaf) (.leaf)) (.node (some (.one [.sc .nilFunc])) (.leaf) (.leaf)))))) (.node (some (.agg [(0, 1), (1, 1)] [.sc (.string ⟨#[]⟩), .sc (.int .u64 0)])) (.node (some (.agg [(0, 1), (1, 1)] [.sc (.int .i64 0), .sc (.int .i64 0)])) (.node (some (.one [.sc .nilFunc])) (.node (some (.one [.sc .nilFunc])) (.node (some (.agg [(0, 1), (1, 1)] [.sc (.pointer none), .row []])) (.leaf) (.leaf)) (.node (some (.one [.sc .nilFunc])) (.leaf) (.leaf))) (.node (none) (.node (some (.one [.sc .nilFunc])) (.leaf) (.leaf)) (.node (some (.one [.sc (.pointer none)])) (.leaf) (.leaf)))) (.node (some (.one [.sc .nilFunc])) (.node (some (.one [.sc .nilFunc])) (.node (some (.one [.sc .nilFunc])) (.leaf) (.leaf)) (.node (some (.one [.sc .nilFunc])) (.leaf) (.leaf))) (.node (some (.one [.sc .nilFunc])) (.node (some (.one [.sc .nilFunc])) (.leaf) (.leaf)) (.node (some (.agg [(0, 0)] [])) (.leaf) (.leaf))))) (.node (some (.agg [(0, 1), (1, 3), (4, 1), (5, 1), (6, 1), (7, 7), (14, 1), (15, 1)] [.sc (.int .i64 0), .sc (.int .i64 0), .sc (.string ⟨#[]⟩), .sc (.string ⟨#[]⟩), .sc (.string ⟨#[]⟩), .sc (.string ⟨#[]⟩), .sc (.int .i64 0), .sc (.int .i64 0), .sc (.string ⟨#[]⟩), .sc (.string ⟨#[]⟩), .sc (.int .i64 0), .sc (.string ⟨#[]⟩), .row [], .sc (.int .i64 0), .row [], .row []])) (.node (some (.one [.sc .nilFunc])) (.node (some (.one [.sc .nilFunc])) (.leaf) (.node (some (.one [.sc .nilFunc])) (.leaf) (.leaf))) (.node (some (.one [.sc .nilFunc])) (.node (some (.one [.sc (.int .u64 0)])) (.leaf) (.leaf)) (.node (some (.arrB 256 5 1)) (.leaf) (.leaf)))) (.node (some (.one [.sc .nilFunc])) (.node (some (.one [.sc .nilFunc])) (.node (some (.one [.sc .nilFunc])) (.leaf) (.leaf)) (.node (some (.one [.sc .nilFunc])) (.leaf) (.leaf))) (.node (some (.one [.sc (.map none)])) (.node (some (.one [.sc .nilFunc])) (.leaf) (.leaf)) (.node (some (.agg [(0, 1), (1, 1), (2, 1), (3, 1), (4, 1), (5, 1), (6, 1), (7, 1), (8, 1), (9, 1), (10, 1)] [.sc (.int .u64 0), .sc (.int .u64 0), .sc (.int .u32 0), .sc (.int .u8 0), .sc (.int .u8 0), .sc (.int .u8 0), .sc (.int .u8 0), .sc .nilFunc, .sc (.pointer none), .sc (.int .i32 0), .sc (.int .i32 0)])) (.leaf) (.leaf))))))))
theorem all : tt.all (tyOk Go.Proofs.Tryz.prog) := (TT.mk (fun i h => by cases h) (TT.mk (fun i h => by injection h with h; subst h; exact k_1) (TT.mk (fun i h => by injection h with h; subst h; exact k_3) (TT.mk (fun i h => by injection h with h; subst h; exact k_7) (TT.mk (fun i h => by injection h with h; subst h; exact k_15) (TT.mk (fun i h => by injection h with h; subst h; exact k_31) (TT.mk (fun i h => by injection h with h; subst h; exact k_63) (TT.mk (fun i h => by injection h with h; subst h; exact k_127) trivial trivial) trivial) (TT.mk (fun i h => by injection h with h; subst h; exact k_95) trivial (TT.mk (fun i h => by injection h with h; subst h; exact k_223) trivial trivial))) (TT.mk (fun i h => by injection h with h; subst h; exact k_47) (TT.mk (fun i h => by cases h) (TT.mk (fun i h => by injection h with h; subst h; exact k_143) trivial trivial) (TT.mk (fun i h => by injection h with h; subst h; exact k_207) trivial trivial)) (TT.mk (fun i h => by injection h with h; subst h; exact k_111) (TT.mk (fun i h => by injection h with h; subst h; exact k_175) trivial trivial) (TT.mk (fun i h => by injection h with h; subst h; exact k_239) trivial trivial)))) (TT.mk (fun i h => by injection h with h; subst h; exact k_23) (TT.mk (fun i h => by injection h with h; subst h; exact k_39) (TT.mk (fun i h => by injection h with h; subst h; exact k_71) (TT.mk (fun i h => by injection h with h; subst h; exact k_135) trivial trivial) (TT.mk (fun i h => by injection h with h; subst h; exact k_199) trivial trivial)) (TT.mk (fun i h => by injection h with h; subst h; exact k_103) (TT.mk (fun i h => by injection h with h; subst h; exact k_167) trivial trivial) (TT.mk (fun i h => by injection h with h; subst h; exact k_231) trivial trivial))) (TT.mk (fun i h => by injection h with h; subst h; exact k_55) (TT.mk (fun i h => by cases h) (TT.mk (fun i h => by injection h with h; subst h; exact k_151) trivial trivial) (TT.mk (fun i h => by injection h with h; subst h; exact k_215) trivial trivial)) (TT.mk (fun i h => by injection h with h; subst h; exact k_119) (TT.mk (fun i h => by injection h with h; subst h; exact k_183) trivial trivial) (TT.mk (fun i h => by injection h with h; subst h; exact k_247) trivial trivial))))) (TT.mk (fun i h => by injection h with h; subst h; exact k_11) (TT.mk (fun i h => by injection h with h; subst h; exact k_19) (TT.mk (fun i h => by injection h with h; subst h; exact k_35) (TT.mk (fun i h => by injection h with h; subst h; exact k_67) (TT.mk (fun i h => by injection h with h; subst h; exact k_131) trivial trivial) (TT.mk (fun i h => by injection h with h; subst h; exact k_195) trivial trivial)) (TT.mk (fun i h => by injection h with h; subst h; exact k_99) (TT.mk (fun i h => by injection h with h; subst h; exact k_163) trivial trivial) (TT.mk (fun i h => by injection h with h; subst h; exact k_227) trivial trivial))) (TT.mk (fun i h => by injection h with h; subst h; exact k_51) (TT.mk (fun i h => by injection h with h; subst h; exact k_83) (TT.mk (fun i h => by injection h with h; subst h; exact k_147) trivial trivial) (TT.mk (fun i h => by injection h with h; subst h; exact k_211) trivial trivial)) (TT.mk (fun i h => by injection h with h; subst h; exact k_115) trivial (TT.mk (fun i h => by injection h with h; subst h; exact k_243) trivial trivial)))) (TT.mk (fun i h => by injection h with h; subst h; exact k_27) (TT.mk (fun i h => by injection h with h; subst h; exact k_43) (TT.mk (fun i h => by cases h) trivial (TT.mk (fun i h => by injection h with h; subst h; exact k_203) trivial trivial)) (TT.mk (fun i h => by injection h with h; subst h; exact k_107) (TT.mk (fun i h => by injection h with h; subst h; exact k_171) trivial trivial) (TT.mk (fun i h => by injection h with h; subst h; exact k_235) trivial trivial))) (TT.mk (fun i h => by injection h with h; subst h; exact k_59) (TT.mk (fun i h => by injection h with h; subst h; exact k_91) (TT.mk (fun i h => by injection h with h; subst h; exact k_155) trivial trivial) (TT.mk (fun i h => by injection h with h; subst h; exact k_219) trivial trivial)) (TT.mk (fun i h => by injection h with h; subst h; exact k_123) (TT.mk (fun i h => by injection h with h; subst h; exact k_187) trivial trivial) (TT.mk (fun i h => by injection h with h; subst h; exact k_251) trivial trivial)))))) (TT.mk (fun i h => by injection h with h; subst h; exact k_5) (TT.mk (fun i h => by injection h with h; subst h; exact k_9) (TT.mk (fun i h => by injection h with h; subst h; exact k_17) (TT.mk (fun i h => by injection h with h; subst h; exact k_33) (TT.mk (fun i h => by injection h with h; subst h; exact k_65) (TT.mk (fun i h => by injection h with h; subst h; exact k_129) trivial trivial) (TT.mk (fun i h => by injection h with h; subst h; exact k_193) trivial trivial)) (TT.mk (fun i h => by injection h with h; subst h; exact k_97) trivial (TT.mk (fun i h => by injection h with h; subst h; exact k_225) trivial trivial))) (TT.mk (fun i h => by injection h with h; subst h; exact k_49) (TT.mk (fun i h => by injection h with h; subst h; exact k_81) (TT.mk (fun i h => by injection h with h; subst h; exact k_145) trivial trivial) trivial) (TT.mk (fun i h => by injection h with h; subst h; exact k_113) trivial (TT.mk (fun i h => by injection h with h; subst h; exact k_241) trivial trivial)))) (TT.mk (fun i h => by injection h with h; subst h; exact k_25) (TT.mk (fun i h => by injection h with h; subst h; exact k_41) (TT.mk (fun i h => by injection h with h; subst h; exact k_73) trivial (TT.mk (fun i h => by injection h with h; subst h; exact k_201) trivial trivial)) (TT.mk (fun i h => by injection h with h; subst h; exact k_105) trivial (TT.mk (fun i h => by injection h with h; subst h; exact k_233) trivial trivial))) (TT.mk (fun i h => by cases h) (TT.mk (fun i h => by injection h with h; subst h; exact k_89) (TT.mk (fun i h => by injection h with h; subst h; exact k_153) trivial trivial) (TT.mk (fun i h => by injection h with h; subst h; exact k_217) trivial trivial)) (TT.mk (fun i h => by injection h with h; subst h; exact k_121) (TT.mk (fun i h => by injection h with h; subst h; exact k_185) trivial trivial) (TT.mk (fun i h => by injection h with h; subst h; exact k_249) trivial trivial))))) (TT.mk (fun i h => by injection h with h; subst h; exact k_13) (TT.mk (fun i h => by injection h with h; subst h; exact k_21) (TT.mk (fun i h => by cases h) (TT.mk (fun i h => by injection h with h; subst h; exact k_69) (TT.mk (fun i h => by injection h with h; subst h; exact k_133) trivial trivial) (TT.mk (fun i h => by injection h with h; subst h; exact k_197) trivial trivial)) (TT.mk (fun i h => by injection h with h; subst h; exact k_101) (TT.mk (fun i h => by injection h with h; subst h; exact k_165) trivial trivial) (TT.mk (fun i h => by injection h with h; subst h; exact k_229) trivial trivial))) (TT.mk (fun i h => by injection h with h; subst h; exact k_53) (TT.mk (fun i h => by injection h with h; subst h; exact k_85) trivial trivial) (TT.mk (fun i h => by cases h) (TT.mk (fun i h => by injection h with h; subst h; exact k_181) trivial trivial) (TT.mk (fun i h => by injection h with h; subst h; exact k_245) trivial trivial)))) (TT.mk (fun i h => by injection h with h; subst h; exact k_29) (TT.mk (fun i h => by injection h with h; subst h; exact k_45) (TT.mk (fun i h => by injection h with h; subst h; exact k_77) (TT.mk (fun i h => by injection h with h; subst h; exact k_141) trivial trivial) (TT.mk (fun i h => by injection h with h; subst h; exact k_205) trivial trivial)) (TT.mk (fun i h => by injection h with h; subst h; exact k_109) (TT.mk (fun i h => by injection h with h; subst h; exact k_173) trivial trivial) (TT.mk (fun i h => by injection h with h; subst h; exact k_237) trivial trivial))) (TT.mk (fun i h => by cases h) (TT.mk (fun i h => by injection h with h; subst h; exact k_93) trivial (TT.mk (fun i h => by injection h with h; subst h; exact k_221) trivial trivial)) (TT.mk (fun i h => by injection h with h; subst h; exact k_125) (TT.mk (fun i h => by injection h with h; subst h; exact k_189) trivial trivial) (TT.mk (fun i h => by injection h with h; subst h; exact k_253) trivial trivial))))))) (TT.mk (fun i h => by injection h with h; subst h; exact k_2) (TT.mk (fun i h => by injection h with h; subst h; exact k_4) (TT.mk (fun i h => by injection h with h; subst h; exact k_8) (TT.mk (fun i h => by injection h with h; subst h; exact k_16) (TT.mk (fun i h => by injection h with h; subst h; exact k_32) (TT.mk (fun i h => by injection h with h; subst h; exact k_64) (TT.mk (fun i h => by injection h with h; subst h; exact k_128) trivial trivial) (TT.mk (fun i h => by injection h with h; subst h; exact k_192) trivial trivial)) (TT.mk (fun i h => by injection h with h; subst h; exact k_96) (TT.mk (fun i h => by injection h with h; subst h; exact k_160) trivial trivial) (TT.mk (fun i h => by injection h with h; subst h; exact k_224) trivial trivial))) (TT.mk (fun i h => by cases h) (TT.mk (fun i h => by injection h with h; subst h; exact k_80) trivial (TT.mk (fun i h => by injection h with h; subst h; exact k_208) trivial trivial)) (TT.mk (fun i h => by injection h with h; subst h; exact k_112) (TT.mk (fun i h => by injection h with h; subst h; exact k_176) trivial trivial) (TT.mk (fun i h => by injection h with h; subst h; exact k_240) trivial trivial)))) (TT.mk (fun i h => by injection h with h; subst h; exact k_24) (TT.mk (fun i h => by cases h) (TT.mk (fun i h => by injection h with h; subst h; exact k_72) (TT.mk (fun i h => by injection h with h; subst h; exact k_136) trivial trivial) trivial) (TT.mk (fun i h => by injection h with h; subst h; exact k_104) (TT.mk (fun i h => by injection h with h; subst h; exact k_168) trivial trivial) (TT.mk (fun i h => by injection h with h; subst h; exact k_232) trivial trivial))) (TT.mk (fun i h => by injection h with h; subst h; exact k_56) (TT.mk (fun i h => by injection h with h; subst h; exact k_88) trivial (TT.mk (fun i h => by injection h with h; subst h; exact k_216) trivial trivial)) (TT.mk (fun i h => by injection h with h; subst h; exact k_120) (TT.mk (fun i h => by injection h with h; subst h; exact k_184) trivial trivial) (TT.mk (fun i h => by injection h with h; subst h; exact k_248) trivial trivial))))) (TT.mk (fun i h => by injection h with h; subst h; exact k_12) (TT.mk (fun i h => by cases h) (TT.mk (fun i h => by injection h with h; subst h; exact k_36) (TT.mk (fun i h => by cases h) (TT.mk (fun i h => by injection h with h; subst h; exact k_132) trivial trivial) (TT.mk (fun i h => by injection h with h; subst h; exact k_196) trivial trivial)) (TT.mk (fun i h => by injection h with h; subst h; exact k_100) (TT.mk (fun i h => by injection h with h; subst h; exact k_164) trivial trivial) (TT.mk (fun i h => by injection h with h; subst h; exact k_228) trivial trivial))) (TT.mk (fun i h => by cases h) (TT.mk (fun i h => by injection h with h; subst h; exact k_84) (TT.mk (fun i h => by injection h with h; subst h; exact k_148) trivial trivial) (TT.mk (fun i h => by injection h with h; subst h; exact k_212) trivial trivial)) (TT.mk (fun i h => by injection h with h; subst h; exact k_116) (TT.mk (fun i h => by injection h with h; subst h; exact k_180) trivial trivial) (TT.mk (fun i h => by injection h with h; subst h; exact k_244) trivial trivial)))) (TT.mk (fun i h => by injection h with h; subst h; exact k_28) (TT.mk (fun i h => by cases h) (TT.mk (fun i h => by injection h with h; subst h; exact k_76) (TT.mk (fun i h => by injection h with h; subst h; exact k_140) trivial trivial) (TT.mk (fun i h => by injection h with h; subst h; exact k_204) trivial trivial)) (TT.mk (fun i h => by injection h with h; subst h; exact k_108) (TT.mk (fun i h => by injection h with h; subst h; exact k_172) trivial trivial) trivial)) (TT.mk (fun i h => by injection h with h; subst h; exact k_60) (TT.mk (fun i h => by injection h with h; subst h; exact k_92) (TT.mk (fun i h => by injection h with h; subst h; exact k_156) trivial trivial) trivial) (TT.mk (fun i h => by injection h with h; subst h; exact k_124) (TT.mk (fun i h => by injection h with h; subst h; exact k_188) trivial trivial) (TT.mk (fun i h => by injection h with h; subst h; exact k_252) trivial trivial)))))) (TT.mk (fun i h => by injection h with h; subst h; exact k_6) (TT.mk (fun i h => by injection h with h; subst h; exact k_10) (TT.mk (fun i h => by injection h with h; subst h; exact k_18) (TT.mk (fun i h => by injection h with h; subst h; exact k_34) (TT.mk (fun i h => by cases h) (TT.mk (fun i h => by injection h with h; subst h; exact k_130) trivial trivial) trivial) (TT.mk (fun i h => by cases h) (TT.mk (fun i h => by injection h with h; subst h; exact k_162) trivial trivial) (TT.mk (fun i h => by injection h with h; subst h; exact k_226) trivial trivial))) (TT.mk (fun i h => by injection h with h; subst h; exact k_50) (TT.mk (fun i h => by injection h with h; subst h; exact k_82) trivial (TT.mk (fun i h => by injection h with h; subst h; exact k_210) trivial trivial)) (TT.mk (fun i h => by injection h with h; subst h; exact k_114) (TT.mk (fun i h => by injection h with h; subst h; exact k_178) trivial trivial) (TT.mk (fun i h => by injection h with h; subst h; exact k_242) trivial trivial)))) (TT.mk (fun i h => by injection h with h; subst h; exact k_26) (TT.mk (fun i h => by injection h with h; subst h; exact k_42) (TT.mk (fun i h => by injection h with h; subst h; exact k_74) trivial (TT.mk (fun i h => by injection h with h; subst h; exact k_202) trivial trivial)) (TT.mk (fun i h => by injection h with h; subst h; exact k_106) (TT.mk (fun i h => by injection h with h; subst h; exact k_170) trivial trivial) (TT.mk (fun i h => by injection h with h; subst h; exact k_234) trivial trivial))) (TT.mk (fun i h => by injection h with h; subst h; exact k_58) (TT.mk (fun i h => by injection h with h; subst h; exact k_90) (TT.mk (fun i h => by injection h with h; subst h; exact k_154) trivial trivial) trivial) (TT.mk (fun i h => by injection h with h; subst h; exact k_122) (TT.mk (fun i h => by injection h with h; subst h; exact k_186) trivial trivial) (TT.mk (fun i h => by injection h with h; subst h; exact k_250) trivial trivial))))) (TT.mk (fun i h => by injection h with h; subst h; exact k_14) (TT.mk (fun i h => by injection h with h; subst h; exact k_22) (TT.mk (fun i h => by injection h with h; subst h; exact k_38) (TT.mk (fun i h => by injection h with h; subst h; exact k_70) (TT.mk (fun i h => by injection h with h; subst h; exact k_134) trivial trivial) (TT.mk (fun i h => by injection h with h; subst h; exact k_198) trivial trivial)) (TT.mk (fun i h => by cases h) (TT.mk (fun i h => by injection h with h; subst h; exact k_166) trivial trivial) (TT.mk (fun i h => by injection h with h; subst h; exact k_230) trivial trivial))) (TT.mk (fun i h => by injection h with h; subst h; exact k_54) (TT.mk (fun i h => by injection h with h; subst h; exact k_86) (TT.mk (fun i h => by injection h with h; subst h; exact k_150) trivial trivial) (TT.mk (fun i h => by injection h with h; subst h; exact k_214) trivial trivial)) (TT.mk (fun i h => by injection h with h; subst h; exact k_118) (TT.mk (fun i h => by injection h with h; subst h; exact k_182) trivial trivial) (TT.mk (fun i h => by injection h with h; subst h; exact k_246) trivial trivial)))) (TT.mk (fun i h => by injection h with h; subst h; exact k_30) (TT.mk (fun i h => by injection h with h; subst h; exact k_46) (TT.mk (fun i h => by injection h with h; subst h; exact k_78) trivial (TT.mk (fun i h => by injection h with h; subst h; exact k_206) trivial trivial)) (TT.mk (fun i h => by injection h with h; subst h; exact k_110) (TT.mk (fun i h => by injection h with h; subst h; exact k_174) trivial trivial) (TT.mk (fun i h => by injection h with h; subst h; exact k_238) trivial trivial))) (TT.mk (fun i h => by injection h with h; subst h; exact k_62) (TT.mk (fun i h => by injection h with h; subst h; exact k_94) (TT.mk (fun i h => by injection h with h; subst h; exact k_158) trivial trivial) (TT.mk (fun i h => by injection h with h; subst h; exact k_222) trivial trivial)) (TT.mk (fun i h => by injection h with h; subst h; exact k_126) (TT.mk (fun i h => by injection h with h; subst h; exact k_190) trivial trivial) (TT.mk (fun i h => by injection h with h; subst h; exact k_254) trivial trivial))))))))
theorem ok : TTok Go.Proofs.Tryz.prog tt := fun t i h => TT.all_get all t i h
theorem en_8 : enters Go.Proofs.Tryz.prog 8 = true := by kernel_rfl
theorem en_12 : enters Go.Proofs.Tryz.prog 12 = true := by kernel_rfl
theorem en_16 : enters Go.Proofs.Tryz.prog 16 = true := by kernel_rfl
theorem en_22 : enters Go.Proofs.Tryz.prog 22 = true := by kernel_rfl
theorem en_24 : enters Go.Proofs.Tryz.prog 24 = true := by kernel_rfl
theorem en_25 : enters Go.Proofs.Tryz.prog 25 = true := by kernel_rfl
theorem en_26 : enters Go.Proofs.Tryz.prog 26 = true := by kernel_rfl
theorem en_27 : enters Go.Proofs.Tryz.prog 27 = true := by kernel_rfl
theorem en_28 : enters Go.Proofs.Tryz.prog 28 = true := by kernel_rfl
theorem en_29 : enters Go.Proofs.Tryz.prog 29 = true := by kernel_rfl
theorem en_30 : enters Go.Proofs.Tryz.prog 30 = true := by kernel_rfl
theorem en_31 : enters Go.Proofs.Tryz.prog 31 = true := by kernel_rfl
theorem en_32 : enters Go.Proofs.Tryz.prog 32 = true := by kernel_rfl
theorem en_33 : enters Go.Proofs.Tryz.prog 33 = true := by kernel_rfl
theorem en_34 : enters Go.Proofs.Tryz.prog 34 = true := by kernel_rfl
theorem en_40 : enters Go.Proofs.Tryz.prog 40 = true := by kernel_rfl
theorem en_47 : enters Go.Proofs.Tryz.prog 47 = true := by kernel_rfl
theorem en_48 : enters Go.Proofs.Tryz.prog 48 = true := by kernel_rfl
theorem en_49 : enters Go.Proofs.Tryz.prog 49 = true := by kernel_rfl
theorem en_50 : enters Go.Proofs.Tryz.prog 50 = true := by kernel_rfl
theorem en_52 : enters Go.Proofs.Tryz.prog 52 = true := by kernel_rfl
theorem en_55 : enters Go.Proofs.Tryz.prog 55 = true := by kernel_rfl
theorem en_58 : enters Go.Proofs.Tryz.prog 58 = true := by kernel_rfl
theorem en_60 : enters Go.Proofs.Tryz.prog 60 = true := by kernel_rfl
theorem en_64 : enters Go.Proofs.Tryz.prog 64 = true := by kernel_rfl
theorem en_66 : enters Go.Proofs.Tryz.prog 66 = true := by kernel_rfl
theorem en_67 : enters Go.Proofs.Tryz.prog 67 = true := by kernel_rfl
theorem en_68 : enters Go.Proofs.Tryz.prog 68 = true := by kernel_rfl
theorem en_69 : enters Go.Proofs.Tryz.prog 69 = true := by kernel_rfl
theorem en_72 : enters Go.Proofs.Tryz.prog 72 = true := by kernel_rfl
theorem en_73 : enters Go.Proofs.Tryz.prog 73 = true := by kernel_rfl
theorem en_74 : enters Go.Proofs.Tryz.prog 74 = true := by kernel_rfl
theorem en_75 : enters Go.Proofs.Tryz.prog 75 = true := by kernel_rfl
theorem en_76 : enters Go.Proofs.Tryz.prog 76 = true := by kernel_rfl
theorem en_77 : enters Go.Proofs.Tryz.prog 77 = true := by kernel_rfl
theorem en_78 : enters Go.Proofs.Tryz.prog 78 = true := by kernel_rfl
theorem en_79 : enters Go.Proofs.Tryz.prog 79 = true := by kernel_rfl
theorem en_80 : enters Go.Proofs.Tryz.prog 80 = true := by kernel_rfl
theorem en_89 : enters Go.Proofs.Tryz.prog 89 = true := by kernel_rfl
theorem en_90 : enters Go.Proofs.Tryz.prog 90 = true := by kernel_rfl
theorem en_91 : enters Go.Proofs.Tryz.prog 91 = true := by kernel_rfl
theorem en_92 : enters Go.Proofs.Tryz.prog 92 = true := by kernel_rfl
theorem en_93 : enters Go.Proofs.Tryz.prog 93 = true := by kernel_rfl
theorem en_94 : enters Go.Proofs.Tryz.prog 94 = true := by kernel_rfl
theorem en_98 : enters Go.Proofs.Tryz.prog 98 = true := by kernel_rfl
theorem en_99 : enters Go.Proofs.Tryz.prog 99 = true := by kernel_rfl
theorem en_102 : enters Go.Proofs.Tryz.prog 102 = true := by kernel_rfl
theorem en_103 : enters Go.Proofs.Tryz.prog 103 = true := by kernel_rfl
theorem en_104 : enters Go.Proofs.Tryz.prog 104 = true := by kernel_rfl
theorem en_106 : enters Go.Proofs.Tryz.prog 106 = true := by kernel_rfl
theorem en_107 : enters Go.Proofs.Tryz.prog 107 = true := by kernel_rfl
theorem en_108 : enters Go.Proofs.Tryz.prog 108 = true := by kernel_rfl
theorem en_109 : enters Go.Proofs.Tryz.prog 109 = true := by kernel_rfl
theorem en_110 : enters Go.Proofs.Tryz.prog 110 = true := by kernel_rfl
theorem en_111 : enters Go.Proofs.Tryz.prog 111 = true := by kernel_rfl
theorem en_112 : enters Go.Proofs.Tryz.prog 112 = true := by kernel_rfl
theorem en_114 : enters Go.Proofs.Tryz.prog 114 = true := by kernel_rfl
theorem en_115 : enters Go.Proofs.Tryz.prog 115 = true := by kernel_rfl
theorem en_116 : enters Go.Proofs.Tryz.prog 116 = true := by kernel_rfl
theorem en_117 : enters Go.Proofs.Tryz.prog 117 = true := by kernel_rfl
theorem en_118 : enters Go.Proofs.Tryz.prog 118 = true := by kernel_rfl
theorem en_120 : enters Go.Proofs.Tryz.prog 120 = true := by kernel_rfl
theorem en_121 : enters Go.Proofs.Tryz.prog 121 = true := by kernel_rfl
theorem en_122 : enters Go.Proofs.Tryz.prog 122 = true := by kernel_rfl
theorem en_123 : enters Go.Proofs.Tryz.prog 123 = true := by kernel_rfl
theorem en_124 : enters Go.Proofs.Tryz.prog 124 = true := by kernel_rfl
theorem en_132 : enters Go.Proofs.Tryz.prog 132 = true := by kernel_rfl
theorem en_136 : enters Go.Proofs.Tryz.prog 136 = true := by kernel_rfl
theorem en_137 : enters Go.Proofs.Tryz.prog 137 = true := by kernel_rfl
theorem en_138 : enters Go.Proofs.Tryz.prog 138 = true := by kernel_rfl
theorem en_139 : enters Go.Proofs.Tryz.prog 139 = true := by kernel_rfl
theorem en_140 : enters Go.Proofs.Tryz.prog 140 = true := by kernel_rfl
theorem en_141 : enters Go.Proofs.Tryz.prog 141 = true := by kernel_rfl
theorem en_142 : enters Go.Proofs.Tryz.prog 142 = true := by kernel_rfl
theorem en_147 : enters Go.Proofs.Tryz.prog 147 = true := by kernel_rfl
theorem en_158 : enters Go.Proofs.Tryz.prog 158 = true := by kernel_rfl
theorem en_161 : enters Go.Proofs.Tryz.prog 161 = true := by kernel_rfl
theorem en_182 : enters Go.Proofs.Tryz.prog 182 = true := by kernel_rfl
theorem mixed : Go.Proofs.Tryz.prog.follows .mixedOrders = true := by kernel_rfl
theorem fn {N : Nat} {f : FuncId} {fn : Func} {c : Code} {args : List D} {res : List C} {rs : List ResultVar} (fb : List Nat) (hf : Go.Proofs.Tryz.prog.funcs[f]? = some fn) (hk : argsT 0 args .leaf fun t => xcode Go.Proofs.Tryz.prog tt N fb c t (fun _ => .junk) (finK Go.Proofs.Tryz.prog tt rs res []))
    (hb : fn.body = some c := by rfl) (hN : fn.ntmps = N := by rfl) (hrs : fn.results.toList = rs := by rfl) (hargs : args.length ≤ N := by exact Nat.le_of_ble_eq_true rfl) (hNB : N ≤ BIG := by exact Nat.le_of_ble_eq_true rfl) : Contract Go.Proofs.Tryz.prog f args res := xfn ok fb hf hb hN hrs hargs hNB hk
end Go.Vm.T
end
section
namespace Go.Vm
open Go.RowKit Go.Proofs
set_option linter.unusedVariables false
set_option linter.unusedSimpArgs false
set_option maxRecDepth 10000

theorem emp : ByteArray.empty = noB := rfl
theorem scb {a b : Bool} (h : a = b) : D.sc (.bool a) = D.sc (.bool b) := by rw [h]
theorem elem_at {α : Type} {l : List α} {k : Nat} (h : (k : Int) < (l.length : Int)) : ∃ p, l[k]? = some p := by
  have : k < l.length := by omega
  exact ⟨_, List.getElem?_eq_getElem this⟩
theorem charAt {s : ByteArray} {k : Nat} (h : (k : Int) < (s.size : Int)) : ∃ b, s[k]? = some b := ⟨s[k]'(by omega), by rw [getElem?_pos]⟩
theorem mapAt {α : Type} {f : α → D} {l : List α} {k : Nat} {x : α} (h : l[k]? = some x) : (l.map f)[k]? = some (f x) := by
  rw [List.getElem?_map, h]; rfl

set_option maxHeartbeats 1000000 in
theorem name_any (s : ByteArray) : Contract Tryz.prog 109 [.sc (.string s)] [.d (.sc (.bool (nameB s)))] := by
 refine T.fn [] Tryz.func109 ?_
 refine x_len ?_
 refine br (fun hg1 => ?y1) (fun hg1 => ?n1)
 case' y1 =>
  refine brT ?_
 case' n1 =>
  refine x_len ?_
  refine br (fun hc3 => ?y3) (fun hc3 => ?n3)
  case' n3 =>
   have hlo : 1 ≤ s.size := by omega
   have hhi : s.size ≤ 12 := by omega
   refine x_len ?_
   refine xloopR (fb := []) T.ok (Nat.le_of_ble_eq_true rfl) [0, 15] (fun (k : Nat) => [(16, .c (.d (.sc (.int .i64 (k : Nat)))))]) (fun k => k ≤ s.size ∧ okTo s k ∧ 1 ≤ s.size ∧ s.size ≤ 12) (fun k => s.size - k) 0 ⟨Nat.zero_le _, okTo_zero s, hlo, hhi⟩ (x_ent (by first | rfl | (simp only [Tr.get]; simp; done)) trivial) ?_
   rintro k ⟨hk, hok, hlo, hhi⟩
   refine br (fun hc4 => ?y4) (fun hc4 => ?n4)
   case' y4 =>
    obtain ⟨b, hb⟩ := charAt hc4
    first | refine x_ch (by exact hb) ?_ | refine x_chI (by exact hb) ?_
    refine br (fun hg5 => ?y5) (fun hg5 => ?n5)
    case' y5 =>
     first | refine x_ch (by exact hb) ?_ | refine x_chI (by exact hb) ?_
     first | refine x_ch (by exact hb) ?_ | refine x_chI (by exact hb) ?_
     refine br (fun hg6 => ?y6) (fun hg6 => ?n6)
     case' y6 =>
      first | refine x_ch (by exact hb) ?_ | refine x_chI (by exact hb) ?_
      refine br (fun hg7 => ?y7) (fun hg7 => ?n7)
      case' y7 =>
       refine br (fun hg8 => ?y8) (fun hg8 => ?n8)
       case' y8 =>
        refine brT ?_
       case' n8 =>
        refine br (fun hc10 => ?y10) (fun hc10 => ?n10)
        case' n10 =>
         first | refine x_inc ?_ | refine x_add ?_ | refine x_bin rfl rfl ?_
         refine x_rnd (k + 1) ⟨char_lt hb, okTo_next hok hb (by (simp only [charB, decide_eq_true_eq, decide_eq_false_iff_not, Bool.not_eq_true', Bool.not_eq_false', Bool.and_eq_true, Bool.or_eq_true, Bool.or_eq_false_iff, Bool.and_eq_false_iff, beq_iff_eq, beq_eq_false_iff_ne, ne_eq, Bool.not_true, Bool.not_false, Bool.false_eq_true, Bool.true_eq_false] at * <;> omega)), hlo, hhi⟩ (by (try dsimp only); have := char_lt hb; omega) rfl (x_ent (by first | rfl | (simp only [Tr.get]; simp; done)) trivial) rfl
      case' n7 =>
       refine brF ?_
       first | refine x_inc ?_ | refine x_add ?_ | refine x_bin rfl rfl ?_
       refine x_rnd (k + 1) ⟨char_lt hb, okTo_next hok hb (by (simp only [charB, decide_eq_true_eq, decide_eq_false_iff_not, Bool.not_eq_true', Bool.not_eq_false', Bool.and_eq_true, Bool.or_eq_true, Bool.or_eq_false_iff, Bool.and_eq_false_iff, beq_iff_eq, beq_eq_false_iff_ne, ne_eq, Bool.not_true, Bool.not_false, Bool.false_eq_true, Bool.true_eq_false] at * <;> omega)), hlo, hhi⟩ (by (try dsimp only); have := char_lt hb; omega) rfl (x_ent (by first | rfl | (simp only [Tr.get]; simp; done)) trivial) rfl
     case' n6 =>
      refine br (fun hg12 => ?y12) (fun hg12 => ?n12)
      case' y12 =>
       refine brT ?_
       refine brT ?_
      case' n12 =>
       refine brF ?_
       first | refine x_inc ?_ | refine x_add ?_ | refine x_bin rfl rfl ?_
       refine x_rnd (k + 1) ⟨char_lt hb, okTo_next hok hb (by (simp only [charB, decide_eq_true_eq, decide_eq_false_iff_not, Bool.not_eq_true', Bool.not_eq_false', Bool.and_eq_true, Bool.or_eq_true, Bool.or_eq_false_iff, Bool.and_eq_false_iff, beq_iff_eq, beq_eq_false_iff_ne, ne_eq, Bool.not_true, Bool.not_false, Bool.false_eq_true, Bool.true_eq_false] at * <;> omega)), hlo, hhi⟩ (by (try dsimp only); have := char_lt hb; omega) rfl (x_ent (by first | rfl | (simp only [Tr.get]; simp; done)) trivial) rfl
    case' n5 =>
     first | refine x_ch (by exact hb) ?_ | refine x_chI (by exact hb) ?_
     refine br (fun hg16 => ?y16) (fun hg16 => ?n16)
     case' y16 =>
      first | refine x_ch (by exact hb) ?_ | refine x_chI (by exact hb) ?_
      refine brT ?_
      refine br (fun hg18 => ?y18) (fun hg18 => ?n18)
      case' y18 =>
       refine brT ?_
      case' n18 =>
       refine br (fun hc20 => ?y20) (fun hc20 => ?n20)
       case' n20 =>
        first | refine x_inc ?_ | refine x_add ?_ | refine x_bin rfl rfl ?_
        refine x_rnd (k + 1) ⟨char_lt hb, okTo_next hok hb (by (simp only [charB, decide_eq_true_eq, decide_eq_false_iff_not, Bool.not_eq_true', Bool.not_eq_false', Bool.and_eq_true, Bool.or_eq_true, Bool.or_eq_false_iff, Bool.and_eq_false_iff, beq_iff_eq, beq_eq_false_iff_ne, ne_eq, Bool.not_true, Bool.not_false, Bool.false_eq_true, Bool.true_eq_false] at * <;> omega)), hlo, hhi⟩ (by (try dsimp only); have := char_lt hb; omega) rfl (x_ent (by first | rfl | (simp only [Tr.get]; simp; done)) trivial) rfl
     case' n16 =>
      refine brT ?_
      refine brT ?_
      refine brT ?_
 all_goals (refine x_ret ?_; simp only [fitsL, fits, C.asD, and_true] <;> (refine scb ?_; first | (refine (name_short ?_).symm; omega; done) | (refine (name_long ?_).symm; omega; done) | (refine (name_no (char_lt hb) hb ?_).symm; (simp only [charB, decide_eq_true_eq, decide_eq_false_iff_not, Bool.not_eq_true', Bool.not_eq_false', Bool.and_eq_true, Bool.or_eq_true, Bool.or_eq_false_iff, Bool.and_eq_false_iff, beq_iff_eq, beq_eq_false_iff_ne, ne_eq, Bool.not_true, Bool.not_false, Bool.false_eq_true, Bool.true_eq_false] at * <;> omega); done) | (refine (name_yes hlo hhi ?_ hok).symm; omega; done)))

set_option maxHeartbeats 1000000 in
theorem refName_any (s : ByteArray) : Contract Tryz.prog 64 [.sc (.string s)] [.d (.sc (.bool (nameB s)))] := by
 refine T.fn [] Tryz.func64 ?_
 refine x_len ?_
 refine br (fun hg1 => ?y1) (fun hg1 => ?n1)
 case' y1 =>
  refine brT ?_
 case' n1 =>
  refine x_len ?_
  refine br (fun hc3 => ?y3) (fun hc3 => ?n3)
  case' n3 =>
   have hlo : 1 ≤ s.size := by omega
   have hhi : s.size ≤ 12 := by omega
   refine xloopR (fb := []) T.ok (Nat.le_of_ble_eq_true rfl) [0] (fun (k : Nat) => [(3, .c (.d (.sc (.int .i64 (k : Nat)))))]) (fun k => k ≤ s.size ∧ okTo s k ∧ 1 ≤ s.size ∧ s.size ≤ 12) (fun k => s.size - k) 0 ⟨Nat.zero_le _, okTo_zero s, hlo, hhi⟩ (x_ent (by first | rfl | (simp only [Tr.get]; simp; done)) trivial) ?_
   rintro k ⟨hk, hok, hlo, hhi⟩
   refine x_len ?_
   refine br (fun hc4 => ?y4) (fun hc4 => ?n4)
   case' y4 =>
    obtain ⟨b, hb⟩ := charAt hc4
    first | refine x_ch (by exact hb) ?_ | refine x_chI (by exact hb) ?_
    refine br (fun hg5 => ?y5) (fun hg5 => ?n5)
    case' y5 =>
     first | refine x_ch (by exact hb) ?_ | refine x_chI (by exact hb) ?_
     first | refine x_ch (by exact hb) ?_ | refine x_chI (by exact hb) ?_
     refine br (fun hg6 => ?y6) (fun hg6 => ?n6)
     case' y6 =>
      first | refine x_ch (by exact hb) ?_ | refine x_chI (by exact hb) ?_
      refine br (fun hg7 => ?y7) (fun hg7 => ?n7)
      case' y7 =>
       refine br (fun hg8 => ?y8) (fun hg8 => ?n8)
       case' y8 =>
        refine brT ?_
       case' n8 =>
        refine br (fun hc10 => ?y10) (fun hc10 => ?n10)
        case' n10 =>
         first | refine x_inc ?_ | refine x_add ?_ | refine x_bin rfl rfl ?_
         refine x_rnd (k + 1) ⟨char_lt hb, okTo_next hok hb (by (simp only [charB, decide_eq_true_eq, decide_eq_false_iff_not, Bool.not_eq_true', Bool.not_eq_false', Bool.and_eq_true, Bool.or_eq_true, Bool.or_eq_false_iff, Bool.and_eq_false_iff, beq_iff_eq, beq_eq_false_iff_ne, ne_eq, Bool.not_true, Bool.not_false, Bool.false_eq_true, Bool.true_eq_false] at * <;> omega)), hlo, hhi⟩ (by (try dsimp only); have := char_lt hb; omega) rfl (x_ent (by first | rfl | (simp only [Tr.get]; simp; done)) trivial) rfl
      case' n7 =>
       refine brF ?_
       first | refine x_inc ?_ | refine x_add ?_ | refine x_bin rfl rfl ?_
       refine x_rnd (k + 1) ⟨char_lt hb, okTo_next hok hb (by (simp only [charB, decide_eq_true_eq, decide_eq_false_iff_not, Bool.not_eq_true', Bool.not_eq_false', Bool.and_eq_true, Bool.or_eq_true, Bool.or_eq_false_iff, Bool.and_eq_false_iff, beq_iff_eq, beq_eq_false_iff_ne, ne_eq, Bool.not_true, Bool.not_false, Bool.false_eq_true, Bool.true_eq_false] at * <;> omega)), hlo, hhi⟩ (by (try dsimp only); have := char_lt hb; omega) rfl (x_ent (by first | rfl | (simp only [Tr.get]; simp; done)) trivial) rfl
     case' n6 =>
      refine br (fun hg12 => ?y12) (fun hg12 => ?n12)
      case' y12 =>
       refine brT ?_
       refine brT ?_
      case' n12 =>
       refine brF ?_
       first | refine x_inc ?_ | refine x_add ?_ | refine x_bin rfl rfl ?_
       refine x_rnd (k + 1) ⟨char_lt hb, okTo_next hok hb (by (simp only [charB, decide_eq_true_eq, decide_eq_false_iff_not, Bool.not_eq_true', Bool.not_eq_false', Bool.and_eq_true, Bool.or_eq_true, Bool.or_eq_false_iff, Bool.and_eq_false_iff, beq_iff_eq, beq_eq_false_iff_ne, ne_eq, Bool.not_true, Bool.not_false, Bool.false_eq_true, Bool.true_eq_false] at * <;> omega)), hlo, hhi⟩ (by (try dsimp only); have := char_lt hb; omega) rfl (x_ent (by first | rfl | (simp only [Tr.get]; simp; done)) trivial) rfl
    case' n5 =>
     first | refine x_ch (by exact hb) ?_ | refine x_chI (by exact hb) ?_
     refine br (fun hg16 => ?y16) (fun hg16 => ?n16)
     case' y16 =>
      first | refine x_ch (by exact hb) ?_ | refine x_chI (by exact hb) ?_
      refine brT ?_
      refine br (fun hg18 => ?y18) (fun hg18 => ?n18)
      case' y18 =>
       refine brT ?_
      case' n18 =>
       refine br (fun hc20 => ?y20) (fun hc20 => ?n20)
       case' n20 =>
        first | refine x_inc ?_ | refine x_add ?_ | refine x_bin rfl rfl ?_
        refine x_rnd (k + 1) ⟨char_lt hb, okTo_next hok hb (by (simp only [charB, decide_eq_true_eq, decide_eq_false_iff_not, Bool.not_eq_true', Bool.not_eq_false', Bool.and_eq_true, Bool.or_eq_true, Bool.or_eq_false_iff, Bool.and_eq_false_iff, beq_iff_eq, beq_eq_false_iff_ne, ne_eq, Bool.not_true, Bool.not_false, Bool.false_eq_true, Bool.true_eq_false] at * <;> omega)), hlo, hhi⟩ (by (try dsimp only); have := char_lt hb; omega) rfl (x_ent (by first | rfl | (simp only [Tr.get]; simp; done)) trivial) rfl
     case' n16 =>
      refine brT ?_
      refine brT ?_
      refine brT ?_
 all_goals (refine x_ret ?_; simp only [fitsL, fits, C.asD, and_true] <;> (refine scb ?_; first | (refine (name_short ?_).symm; omega; done) | (refine (name_long ?_).symm; omega; done) | (refine (name_no (char_lt hb) hb ?_).symm; (simp only [charB, decide_eq_true_eq, decide_eq_false_iff_not, Bool.not_eq_true', Bool.not_eq_false', Bool.and_eq_true, Bool.or_eq_true, Bool.or_eq_false_iff, Bool.and_eq_false_iff, beq_iff_eq, beq_eq_false_iff_ne, ne_eq, Bool.not_true, Bool.not_false, Bool.false_eq_true, Bool.true_eq_false] at * <;> omega); done) | (refine (name_yes hlo hhi ?_ hok).symm; omega; done)))

set_option maxHeartbeats 1000000 in
theorem text_any (s : ByteArray) : Contract Tryz.prog 111 [.sc (.string s)] [.d (.sc (.bool (decide (s.size ≤ 40))))] := by
 refine T.fn [] Tryz.func111 ?_
 refine x_len ?_
 all_goals (refine x_ret ?_; simp only [fitsL, fits, C.asD, and_true] <;> (refine scb ?_; simp; omega))

set_option maxHeartbeats 1000000 in
theorem factor_any (n : Int) : Contract Tryz.prog 110 [.sc (.int .i64 n)] [.d (.sc (.bool (decide (2 ≤ n) && decide (n ≤ 1000))))] := by
 refine T.fn [] Tryz.func110 ?_
 refine br (fun hg1 => ?y1) (fun hg1 => ?n1)
 all_goals (refine x_ret ?_; simp only [fitsL, fits, C.asD, and_true] <;> (refine scb ?_; first | (simp_all; done) | (simp_all <;> (intros; omega))))
end Go.Vm
end
section
namespace Go.Vm
open Go.RowKit Go.Proofs
set_option linter.unusedVariables false
set_option linter.unusedSimpArgs false
set_option maxRecDepth 10000

set_option maxHeartbeats 1000000 in
theorem less_any (a b : RefD) : Contract Tryz.prog 124 [rD a, rD b] [.d (.sc (.bool (lessB a b)))] := by
 refine T.fn [] Tryz.func124 ?_
 refine br (fun hc1 => ?y1) (fun hc1 => ?n1)
 case' n1 =>
  refine br (fun hc2 => ?y2) (fun hc2 => ?n2)
 all_goals (refine x_ret ?_; simp only [fitsL, fits, C.asD, and_true] <;> (refine scb ?_; simp_all [lessB, ltB]))

set_option maxHeartbeats 1000000 in
theorem refLess_any (a b : RefD) : Contract Tryz.prog 80 [rD a, rD b] [.d (.sc (.bool (lessB a b)))] := by
 refine T.fn [] Tryz.func80 ?_
 refine br (fun hc1 => ?y1) (fun hc1 => ?n1)
 case' n1 =>
  refine br (fun hc2 => ?y2) (fun hc2 => ?n2)
 all_goals (refine x_ret ?_; simp only [fitsL, fits, C.asD, and_true] <;> (refine scb ?_; simp_all [lessB, ltB]))

set_option maxHeartbeats 1000000 in
theorem place_any (r : RefD) : Contract Tryz.prog 108 [rD r] [.d (.sc (.bool (placeB r)))] := by
 refine T.fn [] Tryz.func108 ?_
 refine br (fun hg1 => ?y1) (fun hg1 => ?n1)
 case' y1 =>
  refine br (fun hc2 => ?y2) (fun hc2 => ?n2)
  case' n2 =>
   refine x_call T.en_109 (name_any _) ?_
   refine br (fun hg3 => ?y3) (fun hg3 => ?n3)
   case' y3 =>
    refine br (fun hg4 => ?y4) (fun hg4 => ?n4)
    case' n4 =>
     refine x_call T.en_109 (name_any _) ?_
 case' n1 =>
  refine brF ?_
  refine x_call T.en_109 (name_any _) ?_
  refine br (fun hg6 => ?y6) (fun hg6 => ?n6)
  case' y6 =>
   refine br (fun hg7 => ?y7) (fun hg7 => ?n7)
   case' n7 =>
    refine x_call T.en_109 (name_any _) ?_
 all_goals (refine x_ret ?_; simp only [fitsL, fits, C.asD, and_true] <;> (refine scb ?_; rcases (show r.scope = 0 ∨ r.scope = 1 ∨ (r.scope ≠ 0 ∧ r.scope ≠ 1) by omega) with h | h | h <;> simp_all [placeB, emp] <;> omega))

set_option maxHeartbeats 1000000 in
theorem refPlace_any (r : RefD) : Contract Tryz.prog 60 [rD r] [.d (.sc (.bool (placeB r)))] := by
 refine T.fn [] Tryz.func60 ?_
 refine br (fun hg1 => ?y1) (fun hg1 => ?n1)
 case' y1 =>
  refine br (fun hg2 => ?y2) (fun hg2 => ?n2)
  case' y2 =>
   refine x_call T.en_64 (refName_any _) ?_
   refine br (fun hg3 => ?y3) (fun hg3 => ?n3)
   case' y3 =>
    refine x_len ?_
    refine br (fun hg4 => ?y4) (fun hg4 => ?n4)
    case' n4 =>
     refine x_call T.en_64 (refName_any _) ?_
  case' n2 =>
   refine brF ?_
 case' n1 =>
  refine brF ?_
  refine brF ?_
 all_goals (refine x_ret ?_; simp only [fitsL, fits, C.asD, and_true] <;> (refine scb ?_; rcases (show r.scope = 0 ∨ r.scope = 1 ∨ (r.scope ≠ 0 ∧ r.scope ≠ 1) by omega) with h | h | h <;> simp_all [placeB, emp] <;> omega))
end Go.Vm
end
section
namespace Go.Vm
open Go.RowKit Go.Proofs
set_option linter.unusedVariables false
set_option linter.unusedSimpArgs false
set_option maxRecDepth 10000
theorem v_25 (x : RefD) : conc (rD x) = some (.agg #[.int .i64 x.scope, .string x.group, .string x.name]) := rfl
theorem rune_25 (r s : RefD) (x y : Operand) (w : World) : (do eqGuard .eql 25 x y (.agg #[.int .i64 r.scope, .string r.group, .string r.name]) (.agg #[.int .i64 s.scope, .string s.group, .string s.name]); binOp .eql 25 (.agg #[.int .i64 r.scope, .string r.group, .string r.name]) (.agg #[.int .i64 s.scope, .string s.group, .string s.name]) : Sem Value).run Tryz.prog w = .ok (.bool (decide (r = s))) w := by
  obtain ⟨a, b, c⟩ := r
  obtain ⟨a', b', c'⟩ := s
  simp [go_sem, eq_strs]
  repeat (first | (split <;> simp_all; done) | split)
  all_goals simp_all
theorem xeq_25e {x y : Operand} {K : Value → Prop} (r s : RefD) (hK : K (.bool (decide (r = s)))) : ∃ u v r', (conc (rD r) = some u ∧ conc (rD s) = some v) ∧ (∀ w, (do eqGuard .eql 25 x y u v; binOp .eql 25 u v : Sem Value).run Tryz.prog w = .ok r' w) ∧ plainV r' = true ∧ K r' := x_eqS (v_25 r) (v_25 s) (fun w => rune_25 r s x y w) rfl hK
theorem v_131 (x : (ByteArray × ByteArray)) : conc (pairD x) = some (.agg #[.string x.1, .string x.2]) := rfl
theorem runn_131 (r s : (ByteArray × ByteArray)) (x y : Operand) (w : World) : (do eqGuard .neq 131 x y (.agg #[.string r.1, .string r.2]) (.agg #[.string s.1, .string s.2]); binOp .neq 131 (.agg #[.string r.1, .string r.2]) (.agg #[.string s.1, .string s.2]) : Sem Value).run Tryz.prog w = .ok (.bool (!decide (r = s))) w := by
  obtain ⟨a, b⟩ := r
  obtain ⟨a', b'⟩ := s
  simp [go_sem, eq_strs]
  repeat (first | (split <;> simp_all; done) | split)
  all_goals simp_all
theorem xeq_131n {x y : Operand} {K : Value → Prop} (r s : (ByteArray × ByteArray)) (hK : K (.bool (!decide (r = s)))) : ∃ u v r', (conc (pairD r) = some u ∧ conc (pairD s) = some v) ∧ (∀ w, (do eqGuard .neq 131 x y u v; binOp .neq 131 u v : Sem Value).run Tryz.prog w = .ok r' w) ∧ plainV r' = true ∧ K r' := x_eqS (v_131 r) (v_131 s) (fun w => runn_131 r s x y w) rfl hK

end Go.Vm
end
