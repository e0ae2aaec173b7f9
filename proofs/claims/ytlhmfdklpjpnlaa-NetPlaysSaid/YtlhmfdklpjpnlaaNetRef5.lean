/- The walks of the reference's Lose, Take and Double. -/
import Derived.Test.YtlhmfdklpjpnlaaNetRef4
namespace Go.Proofs.Ytlhmfdklpjpnlaa
open Go.RowKit Punnet.Flt
set_option linter.unusedVariables false

theorem refLose_no {w0 w : World} {gm : Nat} {v0 v1 ml : Value} {rs is : List Int} {L : List Par} {x y off : Int} (hr : RefAt w0 w gm v0 v1 ml rs is L x y off) (i : Int) (h : i < 0 ∨ (L.length : Int) ≤ i) :
    Calls Try.prog 20 #[.pointer (some ⟨gm, 0, none⟩), .int .i64 i] w fun e w' => e = .returned (.int .i64 6) ∧ w = w' := by
  obtain ⟨h1, h2, h3, h4, h5, h6, h7⟩ := hr
  obtain ⟨a', cap', rfl⟩ := (RowN.of_own h3).len
  have c2 : w.cell? ⟨gm, 2, none⟩ = some (.slice a' L.length cap') := by rw [cell_block h2]; rfl
  clear h2 h3 h4 h6 h7
  by_cases h0 : i < 0
  · go_enter Try.func20, Try.ntmps20
    go_wp2_with fail
    go_ret
    exact ⟨rfl, rfl⟩
  · have h' : (L.length : Int) ≤ i := by omega
    clear h
    go_enter Try.func20, Try.ntmps20
    go_wp2_with fail
    go_ret
    exact ⟨rfl, rfl⟩

theorem less_mem {L : List Par} {i : Nat} {p : Par} (h : p ∈ less L i) : p ∈ L := by
  unfold less at h
  rcases List.mem_append.1 h with h | h
  · exact List.mem_of_mem_take h
  · exact List.mem_of_mem_drop h

set_option maxHeartbeats 2000000 in
theorem refLose_yes {w0 w : World} {gm : Nat} {v0 v1 ml : Value} {rs is : List Int} {L : List Par} {x y off : Int} (hr : RefAt w0 w gm v0 v1 ml rs is L x y off) {i : Nat} (hi : i < L.length) :
    Calls Try.prog 20 #[.pointer (some ⟨gm, 0, none⟩), .int .i64 (i : Int)] w fun e w' => e = .returned (.int .i64 0) ∧ RefMove w0 w gm v0 v1 rs is (less L i) x y off w' := by
  obtain ⟨i0, hi0, hz0, hz1, hz2⟩ := info_parts par_info
  have HR := Lib.hid hr
  have hone := hr.one
  obtain ⟨h1, h2, h3, h4, h5, h6, h7⟩ := hr
  have hlc := parC_len L
  rcases h3.2 with ⟨_, hx⟩ | ⟨b, cap, cur, rfl, hbb, hbc, hnc, hcm, hcs, htk⟩
  · omega
  have hbl := block_lt hbc
  obtain ⟨_, hx | ⟨b', o', cap', e, _, _, hcell⟩⟩ := RowN.of_own h3
  · omega
  injection e with e q1 q2; injection e with e; injection e with e1 e2 _
  subst e1 e2 q2
  clear q1
  have ROW : Hid (RowN 3 w (.slice (some ⟨b, 0, none⟩) i cap) i ((L.flatMap parC).take (i * 3))) := by
    refine ⟨by rw [List.length_take, hlc]; omega, ?_⟩
    by_cases hz : i = 0
    · exact .inl ⟨hz, _, _, by rw [hz], fun h => by cases h⟩
    · refine .inr ⟨b, 0, cap, rfl, by omega, hbl, fun j u hj => ?_⟩
      rw [List.getElem?_take] at hj
      split at hj
      · exact hcell j u hj
      · cases hj
  have ONE1 : Hid (∀ u ∈ (L.flatMap parC).take (i * 3), u.oneCell' = true) := fun u hu => hone u (List.mem_of_mem_take hu)
  have ONE2 : Hid (∀ u ∈ (L.flatMap parC).drop (i * 3 + 3), u.oneCell' = true) := fun u hu => hone u (List.mem_of_mem_drop hu)
  have hlen2 : ((L.flatMap parC).drop (i * 3 + 3)).length = (L.length - (i + 1)) * 3 := by rw [List.length_drop, hlc]; omega
  obtain ⟨A, hA, hsrc⟩ : ∃ A : Addr, (if cap = i + 1 then some (⟨b, 0, none⟩ : Addr) else some ⟨b, (i + 1) * 3, none⟩) = some A ∧ Hid (∀ (W : World), Below w.heap.size w W → ∀ t u, ((L.flatMap parC).drop (i * 3 + 3))[t]? = some u → W.cell? (A.add t) = some u) := by
    by_cases hx : cap = i + 1
    · refine ⟨⟨b, 0, none⟩, by simp [hx], fun W hW t u hu => ?_⟩
      have h0 : ((L.flatMap parC).drop (i * 3 + 3)).length = 0 := by rw [hlen2]; omega
      rw [List.length_eq_zero_iff.1 h0] at hu
      simp at hu
    · refine ⟨⟨b, (i + 1) * 3, none⟩, by simp [hx], fun W hW t u hu => ?_⟩
      rw [add_spot, hW.cell (p := ⟨b, (i + 1) * 3 + t, none⟩) hbl]
      rw [List.getElem?_drop] at hu
      have := hcell _ u hu
      rw [Nat.zero_add] at this
      rw [show (i + 1) * 3 + t = i * 3 + 3 + t by omega]; exact this
  have c2 : w.cell? ⟨gm, 2, none⟩ = some (.slice (some ⟨b, 0, none⟩) L.length cap) := by rw [cell_block h2]; rfl
  have f2 : w.frozen? ⟨gm, 2, none⟩ = false := free_block h2
  have hgl := block_lt h2
  have LB := Lib.hid (show ∀ p ∈ less L i, RowN 1 w0 p.2.2.1 p.2.2.2.length (u8s p.2.2.2) ∧ p.2.2.2.length ≤ 61000 from fun p hp => h4 p (less_mem hp))
  unfold maxLen at hcm
  have i00 : ¬ (i : Int) < 0 := by omega
  have iln : ¬ (L.length : Int) ≤ i := by omega
  have hic1 : i ≤ cap := by omega
  have hi01 : (0 : Int) ≤ (i : Int) + 1 := by omega
  have hjc1 : i + 1 ≤ cap := by omega
  have hjn1 : i + 1 ≤ L.length := by omega
  have hij : (i : Int) + 1 ≤ L.length := by omega
  have HLEN := Lib.hid hlen2
  clear h2 h3 h4 h6 h7 hcell hbc hcs htk hlen2 hone hlc
  go_enter Try.func20, Try.ntmps20
  go_wp2_with (first
    | (at_builtin; refine wpList_append_row (W := w) rfl (.tmp 17) (.tmp 23) _ rfl 45 i0 _ 3 40 Try.underlying49 hi0 hz0 hz1 hz2 rfl (by omega) rfl (.slice (some ⟨b, 0, none⟩) i cap) i ((L.flatMap parC).take (i * 3)) rfl ROW.out ONE1.out (by simp only [maxLen]; omega) (by omega) ?_; intro v5 w5 ho5 hb5; have HO5 := Lib.hid ho5; have c5 : w5.cell? ⟨gm, 2, none⟩ = some (.slice (some ⟨b, 0, none⟩) L.length cap) := (hb5.cell (p := ⟨gm, 2, none⟩) hgl).trans c2; have hz5 := hb5.size; obtain ⟨a5, cap5, rfl⟩ := (RowN.of_own ho5).len; clear ho5)
    | (at_builtin; go_must (refine wpList_append_own _ rfl (.tmp 26) (.tmp 33) _ rfl w.heap.size 45 i0 _ 3 40 Try.underlying49 hi0 hz0 hz1 hz2 rfl (by omega) (.slice a5 i cap5) i ((L.flatMap parC).take (i * 3)) rfl HO5.out A (L.length - (i + 1)) (cap - (i + 1)) ((L.flatMap parC).drop (i * 3 + 3)) rfl HLEN.out (hsrc.out w5 hb5) ONE2.out (by simp only [maxLen]; omega) (by omega) hz5 ?_; intro v6 w6 ho6 hg6 _; have HO6 := Lib.hid ho6; have hb6 := hb5.trans (below_append HO5.out (Below.refl _ _) hz5 hg6); have c6 : w6.cell? ⟨gm, 2, none⟩ = some (.slice (some ⟨b, 0, none⟩) L.length cap) := (hb6.cell (p := ⟨gm, 2, none⟩) hgl).trans c2; have f6 : w6.frozen? ⟨gm, 2, none⟩ = false := (hb6.frozen (p := ⟨gm, 2, none⟩) hgl).trans f2; obtain ⟨a6, cap6, rfl⟩ := (RowN.of_own ho6).len; clear ho6)))
  go_ret
  refine ⟨rfl, refMove_close HR.out hb6 ?_ ?_ LB.out ?_⟩
  · rw [← less_cells]; exact HO6.out
  · rw [less_len hi]; omega
  · rw [less_len hi]; omega
end Go.Proofs.Ytlhmfdklpjpnlaa
