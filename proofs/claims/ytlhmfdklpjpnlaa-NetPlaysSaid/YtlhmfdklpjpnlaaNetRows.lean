/- A law's rows of whole numbers. -/
import Derived.Test.YtlhmfdklpjpnlaaNetAwake
namespace Go.Proofs.Ytlhmfdklpjpnlaa
open Go.RowKit
set_option linter.unusedVariables false
theorem reads_i64s {w : World} {a0 : Option Addr} {l c : Nat} (h : Reads Try.prog w 22 [.slice a0 l c]) : ∃ rs : List Int, rs.length = l ∧ RowAt w (.slice a0 l c) (i64s rs) ∧ l ≤ 9223372036854775807 ∧ (∀ z ∈ rs, -9223372036854775808 ≤ z ∧ z ≤ 9223372036854775807) := by
  rcases h.row1 Try.underlying22 (by kernel_rfl) with ⟨rfl, rfl, rfl⟩ | ⟨rfl, a, rfl⟩ | ⟨h0, hl, hm, b, off, rfl, hb, hc⟩
  · exact ⟨[], rfl, .inl ⟨rfl, _, _, rfl⟩, by omega, by simp⟩
  · exact ⟨[], rfl, .inl ⟨rfl, _, _, rfl⟩, by omega, by simp⟩
  · obtain ⟨rs, h1, h2⟩ := choose_list (Q := fun i (z : Int) => w.cell? ⟨b, off + i, none⟩ = some (.int .i64 z) ∧ -9223372036854775808 ≤ z ∧ z ≤ 9223372036854775807) l (fun i hi => by
      obtain ⟨x, hx, hr⟩ := hc i hi
      obtain ⟨z, hz, hw⟩ := hr.int Try.underlying2
      obtain rfl : x = .int .i64 z := by injection hz
      exact ⟨z, hx, i64_of_wf hw⟩)
    refine ⟨rs, h1, .inr ⟨b, off, c, by rw [i64s_len, h1], by rw [i64s_len]; omega, hb, fun j hj => ?_⟩, by unfold maxLen at hm; omega, ?_⟩
    · rw [i64s_get]; exact (h2 j (by rw [i64s_len] at hj; exact hj)).1
    · intro z hz
      obtain ⟨j, hj, rfl⟩ := List.getElem_of_mem hz
      exact (h2 j hj).2
end Go.Proofs.Ytlhmfdklpjpnlaa
