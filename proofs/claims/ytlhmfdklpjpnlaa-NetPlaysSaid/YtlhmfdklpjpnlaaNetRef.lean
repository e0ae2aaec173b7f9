/- The walks of the reference's small, New, Cut, Replica, side and Apart. -/
import Derived.Test.YtlhmfdklpjpnlaaNetBytes
namespace Go.Proofs.Ytlhmfdklpjpnlaa
open Go.RowKit Punnet.Flt
set_option linter.unusedVariables false

/-- The reference's net in memory. -/
def RefAt (w0 w : World) (gm : Nat) (v0 v1 ml : Value) (rs is : List Int) (L : List Par) (x y off : Int) : Prop :=
  w0.heap.size ≤ gm ∧ w.heap[gm]? = some (.cells #[v0, v1, ml, .int .i64 x, .int .i64 y, .int .i64 off] 53 (0, 0)) ∧ w.ownsRow w0.heap.size 45 3 ml L.length (L.flatMap parC) ∧
    (∀ p ∈ L, RowN 1 w0 p.2.2.1 p.2.2.2.length (u8s p.2.2.2) ∧ p.2.2.2.length ≤ 61000) ∧ L.length ≤ 60 ∧ Below w0.heap.size w0 w ∧ RowAt w0 v0 (i64s rs) ∧ RowAt w0 v1 (i64s is) ∧ (rs.length = is.length ∧ rs.length ≤ 6 ∧ ∀ p ∈ places rs is, smallB p.1 p.2 = true) ∧ smallB x y = true ∧ (-9223372036854775808 ≤ off ∧ off ≤ 9223372036854775807)

theorem RefAt.later {w0 w w' : World} {gm : Nat} {v0 v1 ml : Value} {rs is : List Int} {L : List Par} {x y off : Int} (h : RefAt w0 w gm v0 v1 ml rs is L x y off) (hb : Below w.heap.size w w') : RefAt w0 w' gm v0 v1 ml rs is L x y off := by
  obtain ⟨h1, h2, h3, h4, h5, h6, h7⟩ := h
  exact ⟨h1, (hb.block gm (block_lt h2)).trans h2, own_later h3 hb, h4, h5, h6.trans (hb.mono h6.size), h7⟩
/-- The net's own doings leave the reference's as it was. -/
theorem RefAt.spares {w0 w w' : World} {gm g : Nat} {v0 v1 ml pa : Value} {rs is : List Int} {L : List Par} {x y off : Int} {ps : List (Int × Int)} {cut : Bool} {X Y O : Int} {M : List Par} (h : RefAt w0 w gm v0 v1 ml rs is L x y off) (hn : NetAt w w0.heap.size g ps pa cut X Y O) (hp : PRow w w0.heap.size pa M) (hs : Spares (netS g pa) w w') (hne : ∀ k, pa.ownBlock = some k → ml.ownBlock ≠ some k) : RefAt w0 w' gm v0 v1 ml rs is L x y off := by
  obtain ⟨h1, h2, h3, h4, h5, h6, h7⟩ := h
  obtain ⟨cs, hg⟩ := hn.blk
  refine ⟨h1, (hs.block gm (block_lt h2) ?_).trans h2, own_spares h3 hs fun k hk => ?_, h4, h5, h6.trans (below_spared hn hp hs h6.size), h7⟩
  · rintro (e | e)
    · exact ne_type h2 hg (by decide) e
    · obtain ⟨_, c2, hc⟩ := own_block hp.1 e
      exact ne_type h2 hc (by decide) rfl
  · obtain ⟨_, c2, hc⟩ := own_block h3 hk
    rintro (e | e)
    · exact ne_type hc hg (by decide) e
    · exact hne k e hk
/-- The reference's own doings leave the net as it was. -/
theorem NetAt.ref {w w' : World} {base g gm : Nat} {ps : List (Int × Int)} {pa : Value} {cut : Bool} {x y off : Int} {cs : Array Value} (hn : NetAt w base g ps pa cut x y off) (hs : Spares (· = gm) w w') (hg : w.heap[gm]? = some (.cells cs 53 (0, 0))) : NetAt w' base g ps pa cut x y off := by
  obtain ⟨h1, ⟨v, h2, h3⟩, h4⟩ := hn
  refine ⟨h1, ⟨v, (hs.block g (block_lt h2) (ne_type h2 hg (by decide))).trans h2, own_spares h3 hs fun k hk e => ?_⟩, h4⟩
  obtain ⟨_, cur, hc⟩ := own_block h3 hk
  exact ne_type hc hg (by decide) e
theorem PRow.ref {w w' : World} {base gm : Nat} {pa : Value} {L : List Par} {cs : Array Value} (hp : PRow w base pa L) (hs : Spares (· = gm) w w') (hg : w.heap[gm]? = some (.cells cs 53 (0, 0))) : PRow w' base pa L := by
  refine hp.spares hs (fun k hk e => ?_) (fun k cur e hc => ?_)
  · obtain ⟨_, cur, hc⟩ := own_block hp.1 hk
    exact ne_type hc hg (by decide) e
  · exact ne_type hc hg (by decide) e
theorem RefAt.blk {w0 w : World} {gm : Nat} {v0 v1 ml : Value} {rs is : List Int} {L : List Par} {x y off : Int} (h : RefAt w0 w gm v0 v1 ml rs is L x y off) : ∃ cs, w.heap[gm]? = some (.cells cs 53 (0, 0)) := ⟨_, h.2.1⟩

theorem refSmall_any (n m : Int) (w : World) : Calls Try.prog 28 #[.int .i64 n, .int .i64 m] w fun e w' => e = .returned (.bool (smallB n m)) ∧ w = w' := by
  have key : (¬ -33554432 ≤ n ∧ smallB n m = false) ∨ (-33554432 ≤ n ∧ ¬ n ≤ 33554432 ∧ smallB n m = false) ∨ (-33554432 ≤ n ∧ n ≤ 33554432 ∧ ¬ -33554432 ≤ m ∧ smallB n m = false) ∨ (-33554432 ≤ n ∧ n ≤ 33554432 ∧ -33554432 ≤ m ∧ ¬ m ≤ 33554432 ∧ smallB n m = false) ∨ (-33554432 ≤ n ∧ n ≤ 33554432 ∧ -33554432 ≤ m ∧ m ≤ 33554432 ∧ smallB n m = true) := by
    cases hs : smallB n m with
    | true => have := smallB_true.1 hs; simp only [and_true]; omega
    | false =>
      have : ¬ (-33554432 ≤ n ∧ n ≤ 33554432 ∧ -33554432 ≤ m ∧ m ≤ 33554432) := fun h => by rw [smallB_true.2 h] at hs; cases hs
      simp only [and_true]; omega
  rcases key with ⟨h1, hv⟩ | ⟨h1, h2, hv⟩ | ⟨h1, h2, h3, hv⟩ | ⟨h1, h2, h3, h4, hv⟩ | ⟨h1, h2, h3, h4, hv⟩
  all_goals
    have HV := Lib.hid hv
    clear hv
    go_enter Try.func28, Try.ntmps28
    go_wp2_with fail
    go_ret
    exact ⟨ret_bool HV.out.symm, rfl⟩

/-- The reference's line is laid. -/
theorem refCut_yes {a b : Int} (h : smallB a b = true) {w0 w : World} {gm : Nat} {v0 v1 ml : Value} {rs is : List Int} {L : List Par} {x y off : Int} (hr : RefAt w0 w gm v0 v1 ml rs is L x y off) (c : Int) (hc : -9223372036854775808 ≤ c ∧ c ≤ 9223372036854775807) :
    Calls Try.prog 13 #[.pointer (some ⟨gm, 0, none⟩), .int .i64 a, .int .i64 b, .int .i64 c] w fun e w' => e = .returned (.int .i64 0) ∧ RefAt w0 w' gm v0 v1 ml rs is L a b c ∧ Spares (· = gm) w w' := by
  have SM := Lib.hid (refSmall_any a b w)
  rw [h] at SM
  obtain ⟨h1, h2, h3, h4, h5, h6, h7, h8, h9, _⟩ := hr
  have c3 : w.cell? ⟨gm, 3, none⟩ = some (.int .i64 x) := by rw [cell_block h2]; rfl
  have c4 : w.cell? ⟨gm, 4, none⟩ = some (.int .i64 y) := by rw [cell_block h2]; rfl
  have c5 : w.cell? ⟨gm, 5, none⟩ = some (.int .i64 off) := by rw [cell_block h2]; rfl
  have f3 : w.frozen? ⟨gm, 3, none⟩ = false := free_block h2
  have f4 : w.frozen? ⟨gm, 4, none⟩ = false := free_block h2
  have f5 : w.frozen? ⟨gm, 5, none⟩ = false := free_block h2
  have H2 := Lib.hid h2
  have H3 := Lib.hid h3
  have HS := Lib.hid h
  have H4 := Lib.hid h4
  have H9 := Lib.hid h9
  clear h2 h3 h h4 h9
  go_enter Try.func13, Try.ntmps13
  go_wp2_with fail
  refine SM.out.mono ?_
  rintro e w1 ⟨rfl, rfl⟩
  go_wp2_with fail
  go_ret
  have hs : Spares (· = gm) w (((w.setCell ⟨gm, 3, none⟩ (.int .i64 a)).setCell ⟨gm, 4, none⟩ (.int .i64 b)).setCell ⟨gm, 5, none⟩ (.int .i64 c)) := (((Spares.refl (· = gm) w).set1).set1).set1
  refine ⟨rfl, ⟨h1, ?_, ?_, H4.out, h5, h6.trans (hs.below h6.size (fun k e => e ▸ h1)), h7, h8, H9.out, HS.out, hc⟩, hs⟩
  · rw [block_setCell (block_setCell (block_setCell H2.out))]; rfl
  · refine own_spares H3.out hs fun k hk e => ?_
    obtain ⟨_, cur, hcur⟩ := own_block H3.out hk
    exact ne_type hcur H2.out (by decide) e
theorem refCut_no {a b : Int} (h : smallB a b = false) (gm : Nat) (c : Int) (w : World) : Calls Try.prog 13 #[.pointer (some ⟨gm, 0, none⟩), .int .i64 a, .int .i64 b, .int .i64 c] w fun e w' => e = .returned (.int .i64 5) ∧ w = w' := by
  have SM := Lib.hid (refSmall_any a b w)
  rw [h] at SM
  clear h
  go_enter Try.func13, Try.ntmps13
  go_wp2_with fail
  refine SM.out.mono ?_
  rintro e w1 ⟨rfl, rfl⟩
  go_wp2_with fail
  go_ret
  exact ⟨rfl, rfl⟩

theorem refReplica_any {w0 w : World} {gm : Nat} {v0 v1 ml : Value} {rs is : List Int} {L : List Par} {x y off : Int} (hr : RefAt w0 w gm v0 v1 ml rs is L x y off) (a : Int) :
    Calls Try.prog 31 #[.pointer (some ⟨gm, 0, none⟩), .int .i64 a] w fun e w' => e = .returned (.bool (repB (places rs is) a)) ∧ w = w' := by
  obtain ⟨h1, h2, h3, h4, h5, h6, h7, h8, h9, _⟩ := hr
  obtain ⟨aa, cap, rfl⟩ := h7.len
  have c0 : w.cell? ⟨gm, 0, none⟩ = some (.slice aa (i64s rs).length cap) := by rw [cell_block h2]; rfl
  rw [i64s_len] at c0
  have hpl := places_len h9.1
  have h96 := h9.2.1
  clear h2 h3 h4 h7 h8 h9
  by_cases ha : 0 < a
  · by_cases hl : a ≤ (rs.length : Int)
    · have HV := Lib.hid (show repB (places rs is) a = true by unfold repB; rw [hpl]; simp; omega)
      clear hpl
      go_enter Try.func31, Try.ntmps31
      go_wp2_with fail
      go_ret
      exact ⟨ret_bool HV.out.symm, rfl⟩
    · have HV := Lib.hid (show repB (places rs is) a = false by unfold repB; rw [hpl]; simp; omega)
      clear hpl
      go_enter Try.func31, Try.ntmps31
      go_wp2_with fail
      go_ret
      exact ⟨ret_bool HV.out.symm, rfl⟩
  · have HV := Lib.hid (show repB (places rs is) a = false by unfold repB; rw [hpl]; simp; omega)
    clear hpl
    go_enter Try.func31, Try.ntmps31
    go_wp2_with fail
    go_ret
    exact ⟨ret_bool HV.out.symm, rfl⟩
end Go.Proofs.Ytlhmfdklpjpnlaa
