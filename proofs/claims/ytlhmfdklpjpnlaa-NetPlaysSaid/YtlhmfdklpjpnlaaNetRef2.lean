/- The walks of the reference's side, Apart and New. -/
import Derived.Test.YtlhmfdklpjpnlaaNetRef
import Derived.Deep.QuietTactic
import Derived.BigQuiet
import Derived.IntWalk
namespace Go.Proofs.Ytlhmfdklpjpnlaa
open Go.RowKit Punnet.Flt
set_option linter.unusedVariables false

/-- The reference's word for a side. -/
def sideR (k off : Int) : Int := if off < k then 1 else if k < off then 2 else 0
theorem sideR_eq (a b off : Int) : (sideR a off != sideR b off) = (sideOf a off != sideOf b off) := by
  unfold sideR sideOf
  by_cases h1 : off < a
  · rw [if_pos h1, if_pos h1]
    by_cases h2 : off < b
    · rw [if_pos h2, if_pos h2]
    · rw [if_neg h2, if_neg h2]
      by_cases h3 : b < off
      · rw [if_pos h3, if_pos h3]; rfl
      · rw [if_neg h3, if_neg h3]
  · rw [if_neg h1, if_neg h1]
    by_cases h4 : a < off
    · rw [if_pos h4, if_pos h4]
      by_cases h2 : off < b
      · rw [if_pos h2, if_pos h2]; rfl
      · rw [if_neg h2, if_neg h2]
        by_cases h3 : b < off
        · rw [if_pos h3, if_pos h3]
          rfl
        · rw [if_neg h3, if_neg h3]; rfl
    · rw [if_neg h4, if_neg h4]
      by_cases h2 : off < b
      · rw [if_pos h2, if_pos h2]
      · rw [if_neg h2, if_neg h2]
        by_cases h3 : b < off
        · rw [if_pos h3, if_pos h3]
          rfl
        · rw [if_neg h3, if_neg h3]

/-- It only reads. -/
def Drew (v : Value) (w : World) (e : Ending) (w' : World) : Prop := e = .returned v ∧ ∃ q, w' = w.drewN q

set_option maxHeartbeats 2000000 in
theorem refSide_any {w0 w : World} {gm : Nat} {v0 v1 ml : Value} {rs is : List Int} {L : List Par} {x y off : Int} (hr : RefAt w0 w gm v0 v1 ml rs is L x y off) {i : Nat} (hi : i < rs.length) (hi2 : i < is.length) :
    Calls Try.prog 34 #[.pointer (some ⟨gm, 0, none⟩), .int .i64 ((i : Int) + 1)] w (Drew (.int .i64 (sideR (rs[i] * x + is[i] * y) off)) w) := by
  obtain ⟨h1, h2, h3, h4, h5, h6, h7, h8, ⟨h9, h10, h11⟩, h12, h13⟩ := hr
  have sp := smallB_true.1 (h11 _ (List.mem_of_getElem? (places_get h9 hi)))
  have sx := smallB_true.1 h12
  simp only at sp
  obtain ⟨m1, m2⟩ := mul_small sp.1 sp.2.1 sx.1 sx.2.1
  obtain ⟨m3, m4⟩ := mul_small sp.2.2.1 sp.2.2.2 sx.2.2.1 sx.2.2.2
  rcases h7 with ⟨hx, _⟩ | ⟨b0, o0, k0, rfl, _, p0, q0⟩
  · have := congrArg List.length hx; rw [i64s_len, List.length_nil] at this; omega
  rcases h8 with ⟨hx, _⟩ | ⟨b1, o1, k1, rfl, _, p1, q1⟩
  · have := congrArg List.length hx; rw [i64s_len, List.length_nil] at this; omega
  have d0 : w.cell? ⟨b0, o0 + i, none⟩ = some (.int .i64 rs[i]) := by rw [h6.cell (p := ⟨b0, o0 + i, none⟩) p0, q0 i (by rw [i64s_len]; exact hi), i64s_get]
  have d1 : w.cell? ⟨b1, o1 + i, none⟩ = some (.int .i64 is[i]) := by rw [h6.cell (p := ⟨b1, o1 + i, none⟩) p1, q1 i (by rw [i64s_len]; exact hi2), i64s_get]
  have c0 : w.cell? ⟨gm, 0, none⟩ = some (.slice (some ⟨b0, o0, none⟩) (i64s rs).length k0) := by rw [cell_block h2]; rfl
  have c1 : w.cell? ⟨gm, 1, none⟩ = some (.slice (some ⟨b1, o1, none⟩) (i64s is).length k1) := by rw [cell_block h2]; rfl
  have c3 : w.cell? ⟨gm, 3, none⟩ = some (.int .i64 x) := by rw [cell_block h2]; rfl
  have c4 : w.cell? ⟨gm, 4, none⟩ = some (.int .i64 y) := by rw [cell_block h2]; rfl
  have c5 : w.cell? ⟨gm, 5, none⟩ = some (.int .i64 off) := by rw [cell_block h2]; rfl
  rw [i64s_len] at c0 c1
  have l0 : (i : Int) < rs.length := by omega
  have l1 : (i : Int) < is.length := by omega
  have i0 : (0 : Int) ≤ i := by omega
  have ii : (i : Int) + 1 - 1 = i := by omega
  have wi : IntKind.i64.wrap (i : Int) = i := IntWalk.i64_in _ (by omega)
  generalize rs[i] = r at *
  generalize is[i] = m at *
  have w1 : IntKind.i64.wrap (r * x) = r * x := IntWalk.i64_in _ (by omega)
  have w2 : IntKind.i64.wrap (m * y) = m * y := IntWalk.i64_in _ (by omega)
  have w3 : IntKind.i64.wrap (r * x + m * y) = r * x + m * y := IntWalk.i64_in _ (by omega)
  have key : (off < r * x + m * y ∧ sideR (r * x + m * y) off = 1) ∨ (¬ off < r * x + m * y ∧ r * x + m * y < off ∧ sideR (r * x + m * y) off = 2) ∨ (¬ off < r * x + m * y ∧ ¬ r * x + m * y < off ∧ sideR (r * x + m * y) off = 0) := by
    unfold sideR
    by_cases k1 : off < r * x + m * y
    · exact .inl ⟨k1, if_pos k1⟩
    · by_cases k2 : r * x + m * y < off
      · exact .inr (.inl ⟨k1, k2, by rw [if_neg k1, if_pos k2]⟩)
      · exact .inr (.inr ⟨k1, k2, by rw [if_neg k1, if_neg k2]⟩)
  clear h2 h3 h4 h9 h10 h11 h12 h13 h6 q0 q1 sp sx
  rcases key with ⟨k1, hv⟩ | ⟨k1, k2, hv⟩ | ⟨k1, k2, hv⟩
  all_goals
    have HV := Lib.hid hv
    clear hv
    go_enter Try.func34, Try.ntmps34
    go_wp2_with fail
    go_quiet (fail)
    go_wp2_with fail
    go_ret
    exact ⟨by rw [HV.out]; rfl, _, rfl⟩

theorem Drew.below {v : Value} {w w' : World} {e : Ending} (h : Drew v w e w') : e = .returned v ∧ Below w.heap.size w w' := by
  obtain ⟨h1, q, rfl⟩ := h; exact ⟨h1, ⟨rfl, rfl, rfl, Nat.le_refl _, fun _ _ => rfl⟩⟩

set_option maxHeartbeats 2000000 in
theorem refApart_any {w0 w : World} {gm : Nat} {v0 v1 ml : Value} {rs is : List Int} {L : List Par} {x y off : Int} (hr : RefAt w0 w gm v0 v1 ml rs is L x y off) (a b : Int) {v : Bool} (hv : apartB (places rs is) true x y off a b = v) :
    Calls Try.prog 23 #[.pointer (some ⟨gm, 0, none⟩), .int .i64 a, .int .i64 b] w fun e w' => e = .returned (.bool v) ∧ Below w.heap.size w w' := by
  have R1 := Lib.hid (refReplica_any hr a)
  have R2 := Lib.hid (refReplica_any hr b)
  cases ha : repB (places rs is) a with
  | false =>
    rw [ha] at R1
    have HV := Lib.hid (show v = false by rw [← hv]; unfold apartB; rw [ha]; rfl)
    clear hv ha
    go_enter Try.func23, Try.ntmps23
    go_wp2_with fail
    refine R1.out.mono ?_
    rintro e w1 ⟨rfl, rfl⟩
    go_wp2_with fail
    go_ret
    exact ⟨ret_bool HV.out.symm, Below.refl _ _⟩
  | true =>
    cases hb : repB (places rs is) b with
    | false =>
      rw [ha] at R1
      rw [hb] at R2
      have HV := Lib.hid (show v = false by rw [← hv]; unfold apartB; rw [ha, hb]; rfl)
      clear hv ha hb
      go_enter Try.func23, Try.ntmps23
      go_wp2_with fail
      refine R1.out.mono ?_
      rintro e w1 ⟨rfl, rfl⟩
      go_wp2_with fail
      refine R2.out.mono ?_
      rintro e w1 ⟨rfl, rfl⟩
      go_wp2_with fail
      go_ret
      exact ⟨ret_bool HV.out.symm, Below.refl _ _⟩
    | true =>
      have ea := of_decide_eq_true ha
      have eb := of_decide_eq_true hb
      have hl := hr.2.2.2.2.2.2.2.2.1.1
      have hpl := places_len hl
      rw [hpl] at ea eb
      rw [ha] at R1
      rw [hb] at R2
      obtain ⟨i, rfl⟩ : ∃ i : Nat, a = (i : Int) + 1 := ⟨(a - 1).toNat, by omega⟩
      obtain ⟨j, rfl⟩ : ∃ j : Nat, b = (j : Int) + 1 := ⟨(b - 1).toNat, by omega⟩
      have hi : i < rs.length := by omega
      have hj : j < rs.length := by omega
      have HV := Lib.hid (show v = (sideR (rs[i] * x + is[i] * y) off != sideR (rs[j] * x + is[j] * y) off) by
        rw [← hv, sideR_eq]
        unfold apartB sideAt
        rw [ha, hb, show ((i : Int) + 1 - 1).toNat = i by omega, show ((j : Int) + 1 - 1).toNat = j by omega, List.getD_eq_getElem?_getD, List.getD_eq_getElem?_getD, places_get hl hi, places_get hl hj]
        rfl)
      have HR := Lib.hid hr
      have S1 := Lib.hid (fun (W : World) (h : RefAt w0 W gm v0 v1 ml rs is L x y off) => refSide_any h hi (by omega))
      have S2 := Lib.hid (fun (W : World) (h : RefAt w0 W gm v0 v1 ml rs is L x y off) => refSide_any h hj (by omega))
      generalize sideR (rs[i] * x + is[i] * y) off = s1 at *
      generalize sideR (rs[j] * x + is[j] * y) off = s2 at *
      clear hv ha hb ea eb hl hpl hr
      go_enter Try.func23, Try.ntmps23
      go_wp2_with fail
      refine R1.out.mono ?_
      rintro e w1 ⟨rfl, rfl⟩
      go_wp2_with fail
      refine R2.out.mono ?_
      rintro e w1 ⟨rfl, rfl⟩
      go_wp2_with fail
      refine (S1.out _ HR.out).mono ?_
      intro e w2 h2
      obtain ⟨rfl, hb2⟩ := h2.below
      have HR2 := Lib.hid (HR.out.later hb2)
      clear h2
      go_wp2_with fail
      refine (S2.out _ HR2.out).mono ?_
      intro e w3 h3
      obtain ⟨rfl, hb3⟩ := h3.below
      clear h3
      go_wp2_with fail
      go_ret
      exact ⟨ret_bool HV.out.symm, below_two hb2 hb3⟩
end Go.Proofs.Ytlhmfdklpjpnlaa
