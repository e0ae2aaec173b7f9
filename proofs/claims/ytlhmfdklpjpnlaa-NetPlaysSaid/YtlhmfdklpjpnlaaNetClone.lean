/- The walks of slices.Clone at bytes, complex numbers and parcels. Printed by gen_clone.py. -/
import Derived.Test.YtlhmfdklpjpnlaaRows2
import Derived.Test.YtlhmfdklpjpnlaaNetAwake
namespace Go.Proofs.Ytlhmfdklpjpnlaa
open Go.RowKit
set_option linter.unusedVariables false


theorem clone8_info : (Try.prog.info? 5).map (fun i => (i.zero, i.size, i.bytes)) = some (some (.int .u8 0), 1, 1) := by kernel_rfl
set_option maxHeartbeats 1000000 in
theorem clone8 {w : World} {v : Value} {n : Nat} {cs : List Value} (h : RowN 1 w v n cs) (h1 : ∀ u ∈ cs, u.oneCell' = true) (hn : n * 1 ≤ 140737488355328) :
    Calls Try.prog 39 #[v] w (ClonePost 5 1 w n cs) := by
  obtain ⟨i0, hi0, hz0, hz1, hz2⟩ := info_parts clone8_info
  have q22 : ∀ (w : World) (a : Option Addr) (n c n' c' : Nat), (binOp .eql 40 (.slice a n c) (.slice none n' c')).run Try.prog w = .ok (.bool a.isNone) w := fun w a n c n' c' => Lib.run_eql_slice_nil w _ _ a n c n' c' Try.underlying40
  obtain ⟨hl, h⟩ := h
  have HL := Lib.hid hl
  rcases h with ⟨rfl, a, cap, rfl, _⟩ | ⟨b, off, cap, rfl, h0, h2, h3⟩
  · obtain rfl : cs = [] := List.length_eq_zero_iff.1 (by omega)
    clear hl HL
    cases a with
    | none =>
      go_enter Try.func39, Try.ntmps39
      go_wp2_with fail
      go_ret
      exact ⟨_, rfl, ⟨by simp, .inl ⟨rfl, rfl⟩⟩, Below.refl _ _⟩
    | some a =>
      go_enter Try.func39, Try.ntmps39
      go_wp2_with (at_builtin; go_must (refine wpList_append_own _ rfl (.tmp 5) (.tmp 6) _ rfl w.heap.size 5 i0 _ 1 1 Try.underlying40 hi0 hz0 hz1 hz2 rfl (by omega) (.slice (some ⟨w.heap.size, 0, none⟩) 0 0) 0 [] rfl ⟨by simp, .inr ⟨w.heap.size, 0, #[], rfl, Nat.le_refl _, heap_alloc_new w _, Nat.le_refl _, by simp [maxLen], by simp, by simp⟩⟩ a 0 cap [] rfl (by simp) (fun j u hu => by simp at hu) (fun u hu => by simp at hu) (by simp [maxLen]) (by omega) (by simp) ?_; intro v1 w1 ho1 hg1 _))
      go_ret
      exact ⟨_, rfl, ho1, ((Below.refl _ _).alloc (Nat.le_refl _) _).grown hg1 (by simp) (fun k hk => by simp [Value.ownBlock] at hk; omega)⟩
  · have H3 := Lib.hid h3
    have H1 := Lib.hid h1
    clear h3 h1 hl
    go_enter Try.func39, Try.ntmps39
    go_wp2_with (at_builtin; go_must (refine wpList_append_clone (W := w) rfl (.tmp 5) (.tmp 6) _ rfl 5 i0 _ 1 1 Try.underlying40 hi0 hz0 hz1 hz2 rfl (by omega) rfl ⟨b, off, none⟩ n cap cs rfl HL.out (fun j u hu => by rw [add_spot]; exact H3.out j u hu) H1.out (by omega) (by simp only [maxLen]; omega) (by omega) ?_; intro g1 c1 w1 hg1 hlt1 ho1 hb1))
    go_ret
    exact ⟨_, rfl, ho1, hb1⟩


theorem cloneC_info : (Try.prog.info? 39).map (fun i => (i.zero, i.size, i.bytes)) = some (some (.complex .f64 0 0), 1, 16) := by kernel_rfl
set_option maxHeartbeats 1000000 in
theorem cloneC {w : World} {v : Value} {n : Nat} {cs : List Value} (h : RowN 1 w v n cs) (h1 : ∀ u ∈ cs, u.oneCell' = true) (hn : n * 16 ≤ 140737488355328) :
    Calls Try.prog 29 #[v] w (ClonePost 39 1 w n cs) := by
  obtain ⟨i0, hi0, hz0, hz1, hz2⟩ := info_parts cloneC_info
  have q22 : ∀ (w : World) (a : Option Addr) (n c n' c' : Nat), (binOp .eql 36 (.slice a n c) (.slice none n' c')).run Try.prog w = .ok (.bool a.isNone) w := fun w a n c n' c' => Lib.run_eql_slice_nil w _ _ a n c n' c' Try.underlying36
  obtain ⟨hl, h⟩ := h
  have HL := Lib.hid hl
  rcases h with ⟨rfl, a, cap, rfl, _⟩ | ⟨b, off, cap, rfl, h0, h2, h3⟩
  · obtain rfl : cs = [] := List.length_eq_zero_iff.1 (by omega)
    clear hl HL
    cases a with
    | none =>
      go_enter Try.func29, Try.ntmps29
      go_wp2_with fail
      go_ret
      exact ⟨_, rfl, ⟨by simp, .inl ⟨rfl, rfl⟩⟩, Below.refl _ _⟩
    | some a =>
      go_enter Try.func29, Try.ntmps29
      go_wp2_with (at_builtin; go_must (refine wpList_append_own _ rfl (.tmp 5) (.tmp 6) _ rfl w.heap.size 39 i0 _ 1 16 Try.underlying36 hi0 hz0 hz1 hz2 rfl (by omega) (.slice (some ⟨w.heap.size, 0, none⟩) 0 0) 0 [] rfl ⟨by simp, .inr ⟨w.heap.size, 0, #[], rfl, Nat.le_refl _, heap_alloc_new w _, Nat.le_refl _, by simp [maxLen], by simp, by simp⟩⟩ a 0 cap [] rfl (by simp) (fun j u hu => by simp at hu) (fun u hu => by simp at hu) (by simp [maxLen]) (by omega) (by simp) ?_; intro v1 w1 ho1 hg1 _))
      go_ret
      exact ⟨_, rfl, ho1, ((Below.refl _ _).alloc (Nat.le_refl _) _).grown hg1 (by simp) (fun k hk => by simp [Value.ownBlock] at hk; omega)⟩
  · have H3 := Lib.hid h3
    have H1 := Lib.hid h1
    clear h3 h1 hl
    go_enter Try.func29, Try.ntmps29
    go_wp2_with (at_builtin; go_must (refine wpList_append_clone (W := w) rfl (.tmp 5) (.tmp 6) _ rfl 39 i0 _ 1 16 Try.underlying36 hi0 hz0 hz1 hz2 rfl (by omega) rfl ⟨b, off, none⟩ n cap cs rfl HL.out (fun j u hu => by rw [add_spot]; exact H3.out j u hu) H1.out (by omega) (by simp only [maxLen]; omega) (by omega) ?_; intro g1 c1 w1 hg1 hlt1 ho1 hb1))
    go_ret
    exact ⟨_, rfl, ho1, hb1⟩


theorem cloneP_info : (Try.prog.info? 45).map (fun i => (i.zero, i.size, i.bytes)) = some (some (.agg #[.int .i64 0, .int .i64 0, .slice none 0 0]), 3, 40) := by kernel_rfl
set_option maxHeartbeats 1000000 in
theorem cloneP {w : World} {v : Value} {n : Nat} {cs : List Value} (h : RowN 3 w v n cs) (h1 : ∀ u ∈ cs, u.oneCell' = true) (hn : n * 40 ≤ 140737488355328) :
    Calls Try.prog 35 #[v] w (ClonePost 45 3 w n cs) := by
  obtain ⟨i0, hi0, hz0, hz1, hz2⟩ := info_parts cloneP_info
  have q22 : ∀ (w : World) (a : Option Addr) (n c n' c' : Nat), (binOp .eql 49 (.slice a n c) (.slice none n' c')).run Try.prog w = .ok (.bool a.isNone) w := fun w a n c n' c' => Lib.run_eql_slice_nil w _ _ a n c n' c' Try.underlying49
  obtain ⟨hl, h⟩ := h
  have HL := Lib.hid hl
  rcases h with ⟨rfl, a, cap, rfl, _⟩ | ⟨b, off, cap, rfl, h0, h2, h3⟩
  · obtain rfl : cs = [] := List.length_eq_zero_iff.1 (by omega)
    clear hl HL
    cases a with
    | none =>
      go_enter Try.func35, Try.ntmps35
      go_wp2_with fail
      go_ret
      exact ⟨_, rfl, ⟨by simp, .inl ⟨rfl, rfl⟩⟩, Below.refl _ _⟩
    | some a =>
      go_enter Try.func35, Try.ntmps35
      go_wp2_with (at_builtin; go_must (refine wpList_append_own _ rfl (.tmp 5) (.tmp 6) _ rfl w.heap.size 45 i0 _ 3 40 Try.underlying49 hi0 hz0 hz1 hz2 rfl (by omega) (.slice (some ⟨w.heap.size, 0, none⟩) 0 0) 0 [] rfl ⟨by simp, .inr ⟨w.heap.size, 0, #[], rfl, Nat.le_refl _, heap_alloc_new w _, Nat.le_refl _, by simp [maxLen], by simp, by simp⟩⟩ a 0 cap [] rfl (by simp) (fun j u hu => by simp at hu) (fun u hu => by simp at hu) (by simp [maxLen]) (by omega) (by simp) ?_; intro v1 w1 ho1 hg1 _))
      go_ret
      exact ⟨_, rfl, ho1, ((Below.refl _ _).alloc (Nat.le_refl _) _).grown hg1 (by simp) (fun k hk => by simp [Value.ownBlock] at hk; omega)⟩
  · have H3 := Lib.hid h3
    have H1 := Lib.hid h1
    clear h3 h1 hl
    go_enter Try.func35, Try.ntmps35
    go_wp2_with (at_builtin; go_must (refine wpList_append_clone (W := w) rfl (.tmp 5) (.tmp 6) _ rfl 45 i0 _ 3 40 Try.underlying49 hi0 hz0 hz1 hz2 rfl (by omega) rfl ⟨b, off, none⟩ n cap cs rfl HL.out (fun j u hu => by rw [add_spot]; exact H3.out j u hu) H1.out (by omega) (by simp only [maxLen]; omega) (by omega) ?_; intro g1 c1 w1 hg1 hlt1 ho1 hb1))
    go_ret
    exact ⟨_, rfl, ho1, hb1⟩

end Go.Proofs.Ytlhmfdklpjpnlaa
