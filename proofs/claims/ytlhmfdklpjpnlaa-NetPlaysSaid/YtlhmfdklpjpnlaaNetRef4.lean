/- The walks of the reference's Post and Lose. -/
import Derived.Test.YtlhmfdklpjpnlaaNetRef3
namespace Go.Proofs.Ytlhmfdklpjpnlaa
open Go.RowKit Punnet.Flt
set_option linter.unusedVariables false

/-- The reference's parcels are others. -/
def RefMove (w0 w : World) (gm : Nat) (v0 v1 : Value) (rs is : List Int) (L : List Par) (x y off : Int) (w' : World) : Prop :=
  ∃ ml', RefAt w0 w' gm v0 v1 ml' rs is L x y off ∧ Spares (· = gm) w w' ∧ ∀ k, ml'.ownBlock = some k → w.heap.size ≤ k

theorem refMove_close {w0 w w5 : World} {gm n cap : Nat} {a : Option Addr} {v0 v1 ml : Value} {rs is : List Int} {L L' : List Par} {x y off : Int} (hr : RefAt w0 w gm v0 v1 ml rs is L x y off)
    (hb : Below w.heap.size w w5) (ho : w5.ownsRow w.heap.size 45 3 (.slice a n cap) n (L'.flatMap parC)) (hn : n = L'.length) (hL : ∀ p ∈ L', RowN 1 w0 p.2.2.1 p.2.2.2.length (u8s p.2.2.2) ∧ p.2.2.2.length ≤ 61000) (hl : L'.length ≤ 60) :
    RefMove w0 w gm v0 v1 rs is L' x y off (w5.setCell ⟨gm, 2, none⟩ (.slice a n cap)) := by
  obtain ⟨h1, h2, h3, h4, h5, h6, h7⟩ := hr
  subst hn
  have g5 : w5.heap[gm]? = some (.cells #[v0, v1, ml, .int .i64 x, .int .i64 y, .int .i64 off] 53 (0, 0)) := (hb.block gm (block_lt h2)).trans h2
  have hs : Spares (· = gm) w (w5.setCell ⟨gm, 2, none⟩ (.slice a L'.length cap)) := (hb.spares _).trans ((Spares.refl (· = gm) w5).set1)
  refine ⟨.slice a L'.length cap, ⟨h1, by rw [block_setCell g5]; rfl, ?_, hL, hl, h6.trans (hs.below h6.size (fun k e => e ▸ h1)), h7⟩, hs, fun k hk => (own_block ho hk).1⟩
  refine own_mono (own_spares (S := (· = gm)) ho ((Spares.refl (· = gm) w5).set1) fun k hk e => ?_) h6.size
  obtain ⟨_, c2, hc⟩ := own_block ho hk
  exact ne_type hc g5 (by decide) e

theorem RefAt.one {w0 w : World} {gm : Nat} {v0 v1 ml : Value} {rs is : List Int} {L : List Par} {x y off : Int} (hr : RefAt w0 w gm v0 v1 ml rs is L x y off) : ∀ u ∈ L.flatMap parC, u.oneCell' = true := by
  intro u hu
  obtain ⟨p, hp, hu⟩ := List.mem_flatMap.1 hu
  simp only [parC, List.mem_cons, List.not_mem_nil, or_false] at hu
  rcases hu with rfl | rfl | rfl
  · rfl
  · rfl
  · obtain ⟨a, c, e⟩ := (hr.2.2.2.1 p hp).1.len
    rw [e]; rfl

set_option maxHeartbeats 2000000 in
theorem refPost_no {w0 w : World} {gm : Nat} {v0 v1 ml : Value} {rs is : List Int} {L : List Par} {x y off : Int} {v : Value} {bs : List UInt8} (hr : RefAt w0 w gm v0 v1 ml rs is L x y off) (hv : RowN 1 w0 v bs.length (u8s bs)) (hbl : bs.length ≤ 9223372036854775807) (f t : Int) {c : Int} (h : postCode (places rs is) L.length bs.length f t = c) (hc : c ≠ 0) :
    Calls Try.prog 15 #[.pointer (some ⟨gm, 0, none⟩), .int .i64 f, .int .i64 t, v] w fun e w' => e = .returned (.int .i64 c) ∧ w = w' := by
  obtain ⟨a, cap, rfl⟩ := hv.len
  have R1 := Lib.hid (refReplica_any hr f)
  have R2 := Lib.hid (refReplica_any hr t)
  obtain ⟨h1, h2, h3, h4, h5, h6, h7⟩ := hr
  obtain ⟨a', cap', rfl⟩ := (RowN.of_own h3).len
  have c2 : w.cell? ⟨gm, 2, none⟩ = some (.slice a' L.length cap') := by rw [cell_block h2]; rfl
  clear h2 h3 h4 h6 h7 hv
  unfold postCode at h
  cases r1 : repB (places rs is) f with
  | false =>
    rw [r1] at R1 h
    rw [if_pos (.inl rfl)] at h
    subst h
    clear r1
    go_enter Try.func15, Try.ntmps15
    go_wp2_with fail
    refine R1.out.mono ?_
    rintro e w1 ⟨rfl, rfl⟩
    go_wp2_with fail
    go_ret
    exact ⟨rfl, rfl⟩
  | true =>
    rw [r1] at R1 h
    clear r1
    cases r2 : repB (places rs is) t with
    | false =>
      rw [r2] at R2 h
      rw [if_pos (.inr (.inl rfl))] at h
      subst h
      clear r2
      go_enter Try.func15, Try.ntmps15
      go_wp2_with fail
      refine R1.out.mono ?_
      rintro e w1 ⟨rfl, rfl⟩
      go_wp2_with fail
      refine R2.out.mono ?_
      rintro e w1 ⟨rfl, rfl⟩
      go_wp2_with fail
      go_ret
      exact ⟨rfl, rfl⟩
    | true =>
      rw [r2] at R2 h
      clear r2
      have key : (f == t) = true ∧ c = 2 ∨ (f == t) = false ∧ (60008 : Int) < bs.length ∧ c = 14 ∨ (f == t) = false ∧ ¬ (60008 : Int) < bs.length ∧ (59 : Int) < L.length ∧ c = 9 := by
        by_cases e : f = t
        · rw [if_pos (.inr (.inr e))] at h; exact .inl ⟨beq_iff_eq.2 e, h.symm⟩
        · rw [if_neg (by simp [e])] at h
          right
          have e' : (f == t) = false := beq_eq_false_iff_ne.2 e
          by_cases e2 : 60008 < bs.length
          · rw [if_pos e2] at h; exact .inl ⟨e', by omega, h.symm⟩
          · rw [if_neg e2] at h
            by_cases e3 : 60 ≤ L.length
            · rw [if_pos e3] at h; exact .inr ⟨e', by omega, by omega, h.symm⟩
            · rw [if_neg e3] at h; exact absurd h.symm hc
      clear h hc
      rcases key with ⟨k1, rfl⟩ | ⟨k1, k2, rfl⟩ | ⟨k1, k2, k3, rfl⟩
      all_goals
        go_enter Try.func15, Try.ntmps15
        go_wp2_with fail
        refine R1.out.mono ?_
        rintro e w1 ⟨rfl, rfl⟩
        go_wp2_with fail
        refine R2.out.mono ?_
        rintro e w1 ⟨rfl, rfl⟩
        go_wp2_with fail
        go_ret
        exact ⟨rfl, rfl⟩

set_option maxHeartbeats 2000000 in
theorem refPost_yes {w0 w : World} {gm : Nat} {v0 v1 ml : Value} {rs is : List Int} {L : List Par} {x y off : Int} {v : Value} {bs : List UInt8} (hr : RefAt w0 w gm v0 v1 ml rs is L x y off) (hv : RowN 1 w0 v bs.length (u8s bs)) (f t : Int) (h : postCode (places rs is) L.length bs.length f t = 0) :
    Calls Try.prog 15 #[.pointer (some ⟨gm, 0, none⟩), .int .i64 f, .int .i64 t, v] w fun e w' => e = .returned (.int .i64 0) ∧ RefMove w0 w gm v0 v1 rs is (L ++ [(f, t, v, bs)]) x y off w' := by
  obtain ⟨i0, hi0, hz0, hz1, hz2⟩ := info_parts par_info
  have R1 := Lib.hid (refReplica_any hr f)
  have R2 := Lib.hid (refReplica_any hr t)
  have HR := Lib.hid hr
  unfold postCode at h
  have key : repB (places rs is) f = true ∧ repB (places rs is) t = true ∧ (f == t) = false ∧ ¬ (60008 : Int) < bs.length ∧ ¬ (59 : Int) < L.length := by
    by_cases e : repB (places rs is) f = false ∨ repB (places rs is) t = false ∨ f = t
    · rw [if_pos e] at h; exact absurd h (by decide)
    · rw [if_neg e] at h
      by_cases e2 : 60008 < bs.length
      · rw [if_pos e2] at h; exact absurd h (by decide)
      · rw [if_neg e2] at h
        by_cases e3 : 60 ≤ L.length
        · rw [if_pos e3] at h; exact absurd h (by decide)
        · simp only [not_or, Bool.not_eq_false] at e
          exact ⟨e.1, e.2.1, beq_eq_false_iff_ne.2 e.2.2, by omega, by omega⟩
  obtain ⟨k1, k2, k3, k4, k5⟩ := key
  rw [k1] at R1
  rw [k2] at R2
  have H1 := Lib.hid hr.one
  have HROW := Lib.hid (RowN.of_own hr.2.2.1)
  obtain ⟨h1, h2, h3, h4, h5, h6, h7⟩ := hr
  obtain ⟨a', cap', rfl⟩ := (RowN.of_own h3).len
  have HV := Lib.hid hv
  obtain ⟨av, capv, rfl⟩ := hv.len
  have c2 : w.cell? ⟨gm, 2, none⟩ = some (.slice a' L.length cap') := by rw [cell_block h2]; rfl
  have f2 : w.frozen? ⟨gm, 2, none⟩ = false := free_block h2
  have hgl := block_lt h2
  have hLB := Lib.hid (show ∀ p ∈ L ++ [(f, t, Value.slice av bs.length capv, bs)], RowN 1 w0 p.2.2.1 p.2.2.2.length (u8s p.2.2.2) ∧ p.2.2.2.length ≤ 61000 by
    intro p hp
    rcases List.mem_append.1 hp with hp | hp
    · exact h4 p hp
    · rw [List.mem_singleton] at hp
      subst hp
      exact ⟨hv, by simp only; omega⟩)
  have hL : L.length < 60 := by omega
  clear h h2 h3 h4 h6 h7 hv k1 k2
  go_enter Try.func15, Try.ntmps15
  go_wp2_with fail
  refine R1.out.mono ?_
  rintro e w1 ⟨rfl, rfl⟩
  go_wp2_with fail
  refine R2.out.mono ?_
  rintro e w1 ⟨rfl, rfl⟩
  go_wp2_with (first
    | (at_builtin; refine wpList_append_row (W := w) rfl (.tmp 34) (.tmp 38) _ rfl 45 i0 _ 3 40 Try.underlying49 hi0 hz0 hz1 hz2 rfl (by omega) rfl _ L.length (L.flatMap parC) rfl HROW.out H1.out (by simp only [maxLen]; omega) (by omega) ?_; intro v5 w5 ho5 hb5; have HO5 := Lib.hid ho5; have c5 : w5.cell? ⟨gm, 2, none⟩ = some (.slice a' L.length cap') := (hb5.cell (p := ⟨gm, 2, none⟩) hgl).trans c2; have hz5 := hb5.size; obtain ⟨a5, cap5, rfl⟩ := (RowN.of_own ho5).len; clear ho5)
    | (at_builtin; go_must (refine wpList_append_lies _ rfl (.tmp 41) (.tmp 46) _ rfl w.heap.size 45 i0 _ 3 40 Try.underlying49 hi0 hz0 hz1 hz2 rfl (by omega) (.slice a5 L.length cap5) L.length (L.flatMap parC) rfl (HO5.out.alloc _) ⟨w5.heap.size, 0, none⟩ 1 1 [.int .i64 f, .int .i64 t, .slice av bs.length capv] rfl rfl (World.news_of_block (cs := #[.int .i64 f, .int .i64 t, .slice av bs.length capv]) (t := 45) (fr := (0, 0)) (heap_alloc_new w5 _)) (one3 rfl) (by omega) (by simp only [maxLen]; omega) (by omega) (by simp; omega) _ rfl ?_; intro gg cap w6 ho6 hg6 hat6 hlt6; have hb6 := hb5.trans (below_append HO5.out ((Below.refl _ _).alloc hz5 _) (by simp; omega) hg6); have c6 : w6.cell? ⟨gm, 2, none⟩ = some (.slice a' L.length cap') := (hb6.cell (p := ⟨gm, 2, none⟩) hgl).trans c2; have f6 : w6.frozen? ⟨gm, 2, none⟩ = false := (hb6.frozen (p := ⟨gm, 2, none⟩) hgl).trans f2)))
  go_ret
  refine ⟨rfl, refMove_close HR.out hb6 ?_ ?_ hLB.out ?_⟩
  · rw [List.flatMap_append]; exact ho6
  · simp
  · simp; omega
end Go.Proofs.Ytlhmfdklpjpnlaa
