/- The walk of name.Quote. -/
import Derived.Test.YtnbcalldkjbjjaaNameQuote
import Derived.Outline
import Derived.Deep.RegionHeld3
import Derived.Deep.AppendLies
namespace Go.Proofs.Ytnbcalldkjbjjaa
open Go.RowKit Punnet.Name
set_option linter.unusedVariables false

theorem digit_at (n : Nat) (h : n < 16) (i : Int) (hi : i = n) (W : World) : (Instr.index 9 (.string ⟨#[48, 49, 50, 51, 52, 53, 54, 55, 56, 57, 97, 98, 99, 100, 101, 102]⟩) (.int .u8 i)).run Try.prog W = .ok (.int .u8 ((hexOf n).toNat : Int)) W := by
  subst hi
  rw [run_index_string W 9 _ _ _ Try.underlying9, dif_pos ⟨by omega, by show (n : Int) < 16; omega⟩]
  have : ∀ n : Fin 16, ((⟨#[48, 49, 50, 51, 52, 53, 54, 55, 56, 57, 97, 98, 99, 100, 101, 102]⟩ : ByteArray)[n.val]'n.isLt) = hexOf n.val := by decide
  have h2 := this ⟨n, h⟩
  congr 2
  simp only [Int.toNat_natCast]
  rw [h2]

/-- A row of bytes as a text. -/
theorem conv_row {w : World} {base : Nat} {v : Value} {l : List UInt8} (h : w.ownsRow base 5 1 v l.length (cellsOf l)) : (convert 40 9 v).run Try.prog w = .ok (.string ⟨l.toArray⟩) w := by
  rcases h.2 with ⟨rfl, h0⟩ | ⟨g, cap, cur, rfl, hb, hg, h1, h2, h3, h4⟩
  · obtain rfl : l = [] := by simpa using h0
    rw [run_convert_bytes_string w 40 9 5 none 0 0 Try.underlying40 Try.underlying5 Try.underlying9]
    rfl
  · refine run_convert_bytes_back _ 40 9 5 _ _ l Try.underlying40 Try.underlying5 Try.underlying9 fun j hj => ?_
    have h5 : cur.toList[j]? = some (.int .u8 (l[j].toNat : Int)) := by
      have := congrArg (fun x => x[j]?) h4
      simp only [Nat.mul_one] at this
      rw [List.getElem?_take, if_pos hj] at this
      rw [this]; simp [cellsOf, hj]
    have hadd : (⟨g, 0, none⟩ : Addr).add j = ⟨g, j, none⟩ := by unfold Addr.add; split <;> simp_all
    rw [hadd]
    simp [World.cell?, hg]
    simpa using h5

/-- What holds of name.Quote at the head of a round. -/
def QuRel (s : ByteArray) (w : World) (k : Nat) (v : Value) (w' : World) : Prop :=
  w'.ownsRow w.heap.size 5 1 v (quoteTo s k).length (cellsOf (quoteTo s k)) ∧ Below w.heap.size w w'

set_option maxHeartbeats 1000000 in
theorem quote_go (s : ByteArray) (w : World) (hs : s.size ≤ 40) : Calls Try.prog 13 #[.string s] w fun e w' => e = .returned (.tuple #[.string ⟨(quoteL s.data.toList).toArray⟩, .int .i64 0]) ∧ Below w.heap.size w w' := by
  obtain ⟨i0, hi0, hz0, hz1, hz2⟩ := info_parts u8_info
  have T := Lib.hid (text_any s)
  have hd : decide (s.size ≤ 40) = true := by simp [hs]
  rw [hd] at T
  clear hd
  go_enter Try.func13, Try.ntmps13
  go_wp2_with fail
  refine (T.out _).mono ?_
  rintro e w1 ⟨rfl, rfl⟩
  go_wp2_with fail
  go_loopw [4, 12] (fun v i wr => ∃ k : Nat, k ≤ s.size ∧ i = .int .i64 (k : Int) ∧ QuRel s w k v wr) (fun _ i _ => s.size - (intOf i).toNat)
  case atStart => exact ⟨0, by omega, rfl, ⟨rfl, .inr ⟨w.heap.size, 1, #[.int .u8 34], rfl, Nat.le_refl _, heap_alloc_new w _, Nat.le_refl _, by decide, rfl, rfl⟩⟩, (Below.refl _ _).alloc (Nat.le_refl _) _⟩
  case round =>
    obtain ⟨k, hk, rfl, ho, hb⟩ := hrel
    have HO := Lib.hid ho
    clear ho
    have hlen := quoteTo_len (s := s) (k := k) hk
    by_cases hlt : k < s.size
    · have hlt' : (k : Int) < s.size := by omega
      have P := Lib.hid (plain_any s[k])
      have HS := Lib.hid (quoteTo_succ hlt)
      cases hp : plainB s[k] with
      | true =>
        rw [hp] at P
        have hsg : signOf s[k] = [s[k]] := by unfold signOf; rw [if_pos hp]
        rw [hsg] at HS
        clear hp hsg
        go_wp2_with fail
        refine (P.out _).mono ?_
        rintro e w1 ⟨rfl, rfl⟩
        go_wp2_with (at_builtin; go_must (refine wpList_append_one rfl (.tmp 19) (.tmp 23) _ rfl w.heap.size 5 i0 _ 1 Try.underlying40 hi0 hz0 hz1 hz2 rfl 5 (.int .u8 (s[k].toNat : Int)) rfl u4 (quoteTo s k).length (cellsOf (quoteTo s k)) rfl HO.out rfl (by simp only [maxLen]; omega) (by omega) hb.size ?_; intro v1 w1 ho1 hb1))
        go_roundw
        case rel => exact ⟨k + 1, by omega, by go_num, by rw [HS.out, cellsOf_snoc, List.length_append, List.length_singleton]; exact ho1, hb.trans hb1⟩
        case measure => simp [intOf]; omega
      | false =>
        rw [hp] at P
        have hsg : signOf s[k] = [92, hexOf (s[k].toNat / 16), hexOf (s[k].toNat % 16)] := by unfold signOf; rw [if_neg (by rw [hp]; decide)]
        rw [hsg] at HS
        have hc := (s[k]).toNat_lt
        have ha := u8_and15 (x := (s[k].toNat : Int)) (by omega) (by omega)
        have x1 := fun W => digit_at (s[k].toNat / 16) (by omega) ((s[k].toNat : Int) / 16) (by omega) W
        have x2 := fun W => digit_at (s[k].toNat % 16) (by omega) ((s[k].toNat : Int) % 16) (by omega) W
        clear hp hsg
        generalize hexOf (s[k].toNat / 16) = d1 at *
        generalize hexOf (s[k].toNat % 16) = d2 at *
        go_wp2_with fail
        refine (P.out _).mono ?_
        rintro e w1 ⟨rfl, rfl⟩
        go_wp2_with fail
        go_region_held3 (fun w' => True) (trivial)
          ((refine step_append_lies _ (by rfl) _ _ _ (by rfl) w.heap.size 5 i0 _ 1 1 Try.underlying40 hi0 hz0 hz1 hz2 rfl (by omega) u4 (quoteTo s k).length (cellsOf (quoteTo s k)) (by rfl) ((HO.out.alloc _).drew)
                ⟨wr.heap.size, 0, none⟩ 3 3 [.int .u8 92, .int .u8 (d1.toNat : Int), .int .u8 (d2.toNat : Int)] (by rfl) (by rfl) (World.news_of_block (cs := #[.int .u8 92, .int .u8 (d1.toNat : Int), .int .u8 (d2.toNat : Int)]) (t := 5) (fr := (0, 0)) (heap_alloc_new wr _)) (by simp [Value.oneCell'])
                (by omega) (by simp only [maxLen]; omega) (by omega) (by simp; have := hb.size; omega) (wr.heap.size + 1) (by simp) ?_; intro gg cap w1 hown1 hgrow hat hlt))
        all_goals
          go_wp2_with fail
          go_roundw
          case rel => exact ⟨k + 1, by omega, by go_num, by rw [HS.out, List.length_append]; unfold cellsOf; rw [List.map_append]; exact hown1, hb.trans (below_append HO.out (((Below.refl _ _).alloc hb.size _).drew) (by simp; have := hb.size; omega) hgrow)⟩
          case measure => simp [intOf]; omega
    · have hlt' : ¬ (k : Int) < s.size := by omega
      obtain rfl : k = s.size := by omega
      have hcv : ∀ g cap (w2 : World), w2.ownsRow w.heap.size 5 1 (.slice (some ⟨g, 0, none⟩) ((quoteTo s s.size).length + 1) cap) ((quoteTo s s.size).length + 1) (cellsOf (quoteTo s s.size) ++ [.int .u8 34]) →
          (convert 40 9 (.slice (some ⟨g, 0, none⟩) ((quoteTo s s.size).length + 1) cap)).run Try.prog w2 = .ok (.string ⟨(quoteL s.data.toList).toArray⟩) w2 := by
        intro g cap w2 h
        have := conv_row (l := quoteL s.data.toList) (v := .slice (some ⟨g, 0, none⟩) ((quoteTo s s.size).length + 1) cap) (w := w2) (base := w.heap.size) (by rw [← quoteTo_all, List.length_append]; unfold cellsOf; rw [List.map_append]; exact h)
        exact this
      go_wp2_with (at_builtin; go_must (refine wpList_append_lies _ rfl (.tmp 39) (.tmp 40) _ rfl w.heap.size 5 i0 _ 1 1 Try.underlying40 hi0 hz0 hz1 hz2 rfl (by omega) u4 (quoteTo s s.size).length (cellsOf (quoteTo s s.size)) rfl (HO.out.alloc _) ⟨wr.heap.size, 0, none⟩ 1 1 [.int .u8 34] rfl rfl (cell_one_new _ _ _) (by simp [Value.oneCell']) (by omega) (by simp only [maxLen]; omega) (by omega) (by simp; have := hb.size; omega) _ rfl ?_; intro g cap w1 ho1 hg1 _ _; have hcv1 := hcv g cap w1 ho1; clear hcv))
      go_ret2
      exact ⟨rfl, hb.trans (below_append HO.out ((Below.refl _ _).alloc hb.size _) (by simp; have := hb.size; omega) hg1)⟩

theorem quote_long (s : ByteArray) (w : World) (hs : 40 < s.size) : Calls Try.prog 13 #[.string s] w fun e w' => e = .returned (.tuple #[.string ⟨#[]⟩, .int .i64 14]) ∧ Below w.heap.size w w' := by
  have T := Lib.hid (text_any s)
  have hd : decide (s.size ≤ 40) = false := by simp; omega
  rw [hd] at T
  clear hd
  go_enter Try.func13, Try.ntmps13
  go_wp2_with fail
  refine (T.out _).mono ?_
  rintro e w1 ⟨rfl, rfl⟩
  go_wp2_with fail
  go_ret2
  exact ⟨rfl, Below.refl _ _⟩
end Go.Proofs.Ytnbcalldkjbjjaa
