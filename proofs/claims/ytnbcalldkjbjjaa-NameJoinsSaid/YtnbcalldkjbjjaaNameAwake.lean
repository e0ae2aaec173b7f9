/- The walk of the laws' example. -/
import Derived.Test.YtnbcalldkjbjjaaNameJoin
namespace Go.Proofs.Ytnbcalldkjbjjaa
open Go.RowKit Punnet.Name
set_option linter.unusedVariables false

theorem split_ex : splitB ⟨#[97, 32, 34, 98, 32, 99, 34, 32, 100]⟩ 0 = [⟨#[97]⟩, ⟨#[34, 98, 32, 99, 34]⟩, ⟨#[100]⟩] := by decide +kernel

set_option maxHeartbeats 1000000 in
theorem nameAwake_any (w : World) : Calls Try.prog 7 #[] w fun e w' => e = .returned (.bool true) ∧ Below w.heap.size w w' := by
  have SP := Lib.hid (fun w => split_any ⟨#[97, 32, 34, 98, 32, 99, 34, 32, 100]⟩ w (by decide))
  rw [split_ex] at SP
  have N1 := Lib.hid (fun w => name_any ⟨#[97, 49]⟩ w (by decide))
  rw [show nameOk ⟨#[97, 49]⟩ = true by decide +kernel] at N1
  have N2 := Lib.hid (fun w => name_any ⟨#[49, 97]⟩ w (by decide))
  rw [show nameOk ⟨#[49, 97]⟩ = false by decide +kernel] at N2
  go_enter Try.func7, Try.ntmps7
  go_wp2_with fail
  refine (SP.out _).mono ?_
  rintro e w1 ⟨v, rfl, ho, hb⟩
  obtain ⟨g, cap, rfl, hg, hc⟩ := row_cells ho (by decide)
  have c1 := hc 1 (by decide)
  simp only [List.getElem_cons_succ, List.getElem_cons_zero] at c1
  simp only [List.length_cons, List.length_nil]
  clear hc ho
  go_wp2_with fail
  refine (N1.out _).mono ?_
  rintro e w2 ⟨rfl, hb2⟩
  go_wp2_with fail
  refine (N2.out _).mono ?_
  rintro e w3 ⟨rfl, hb3⟩
  go_wp2_with fail
  go_ret
  exact ⟨rfl, by repeat (first | exact Below.refl _ _ | assumption | refine below_two ?_ (by assumption))⟩
end Go.Proofs.Ytnbcalldkjbjjaa
