/- The walk of the reference's Double. -/
import Derived.Test.YtlhmfdklpjpnlaaNetRef6
import Derived.StillTailTactics
namespace Go.Proofs.Ytlhmfdklpjpnlaa
open Go.RowKit Punnet.Flt
set_option linter.unusedVariables false

theorem refDouble_no {w0 w : World} {gm : Nat} {v0 v1 ml : Value} {rs is : List Int} {L : List Par} {x y off : Int} (hr : RefAt w0 w gm v0 v1 ml rs is L x y off) (i : Int) (h : i < 0 ∨ (L.length : Int) ≤ i) :
    Calls Try.prog 22 #[.pointer (some ⟨gm, 0, none⟩), .int .i64 i] w fun e w' => e = .returned (.int .i64 6) ∧ w = w' := by
  obtain ⟨h1, h2, h3, h4, h5, h6, h7⟩ := hr
  obtain ⟨a', cap', rfl⟩ := (RowN.of_own h3).len
  have c2 : w.cell? ⟨gm, 2, none⟩ = some (.slice a' L.length cap') := by rw [cell_block h2]; rfl
  clear h2 h3 h4 h6 h7
  by_cases h0 : i < 0
  · go_enter Try.func22, Try.ntmps22
    go_wp2_with fail
    go_ret
    exact ⟨rfl, rfl⟩
  · have h' : (L.length : Int) ≤ i := by omega
    clear h
    go_enter Try.func22, Try.ntmps22
    go_wp2_with fail
    go_ret
    exact ⟨rfl, rfl⟩

set_option maxHeartbeats 4000000 in
theorem refDouble_any {w0 w : World} {gm : Nat} {v0 v1 ml : Value} {rs is : List Int} {L : List Par} {x y off : Int} (hr : RefAt w0 w gm v0 v1 ml rs is L x y off) {i : Nat} {f t : Int} {bq : Value} {bs : List UInt8} (hi : L[i]? = some (f, t, bq, bs)) {Q : Ending → World → Prop}
    (hq : Calls Try.prog 15 #[.pointer (some ⟨gm, 0, none⟩), .int .i64 f, .int .i64 t, bq] w.drew (fun e w' => ∃ c, e = .returned (.int .i64 c) ∧ Q (.returned (.int .i64 c)) w')) :
    Calls Try.prog 22 #[.pointer (some ⟨gm, 0, none⟩), .int .i64 (i : Int)] w Q := by
  have hil := (List.getElem?_eq_some_iff.1 hi).1
  obtain ⟨b, cap, rfl, hbl, d0, d1, d2⟩ := hr.at hi
  obtain ⟨av, capv, e⟩ := (hr.2.2.2.1 _ (List.mem_of_getElem? hi)).1.len
  simp only at e d0 d1 d2
  subst e
  have HQ := Lib.hid hq
  have hl := hr.2.2.2.2.1
  have c2 : w.cell? ⟨gm, 2, none⟩ = some (.slice (some ⟨b, 0, none⟩) L.length cap) := by rw [cell_block hr.2.1]; rfl
  have i00 : ¬ (i : Int) < 0 := by omega
  have iln : ¬ (L.length : Int) ≤ i := by omega
  have il : (i : Int) < L.length := by omega
  have i0' : (0 : Int) ≤ i := by omega
  clear hr hi hq
  go_enter Try.func22, Try.ntmps22
  go_wp2_with fail
  go_still_tail 25, (by kernel_rfl)
  change wpList _ _ _ _ _ w.drew
  generalize w.drew = wd at *
  go_wp2_with fail
  refine HQ.out.mono ?_
  rintro e w2 ⟨c, rfl, hQ⟩
  have HQ2 := Lib.hid hQ
  clear hQ
  go_wp2_with fail
  exact HQ2.out
end Go.Proofs.Ytlhmfdklpjpnlaa
