/- The walk of the reference's Same, at two rows that hold the same texts. -/
import Derived.Test.YtnbcalldkjbjjaaNameRefSplit
import Derived.Deep.QuietTactic
import Derived.BigQuiet
import Derived.Lib.SmallJoins
namespace Go.Proofs.Ytnbcalldkjbjjaa
open Go.RowKit Punnet.Name
set_option linter.unusedVariables false

theorem row_len {w : World} {base n : Nat} {e : TypeId} {v : Value} {xs : List Value} (h : w.ownsRow base e 1 v n xs) (hn : n = 0) : ∃ a cap, v = .slice a 0 cap := by
  subst hn
  rcases h.2 with ⟨rfl, _⟩ | ⟨g, cap, cur, rfl, _⟩
  · exact ⟨_, _, rfl⟩
  · exact ⟨_, _, rfl⟩

theorem row_cells {w : World} {base : Nat} {e : TypeId} {v : Value} {l : List ByteArray} (h : w.ownsRow base e 1 v l.length (strsOf l)) (hn : 0 < l.length) :
    ∃ g cap, v = .slice (some ⟨g, 0, none⟩) l.length cap ∧ base ≤ g ∧ ∀ j (hj : j < l.length), w.cell? ⟨g, j, none⟩ = some (.string l[j]) := by
  rcases h.2 with ⟨_, h0⟩ | ⟨g, cap, cur, rfl, hb, hg, h1, h2, h3, h4⟩
  · omega
  · refine ⟨g, cap, rfl, hb, fun j hj => ?_⟩
    have h5 : cur.toList[j]? = some (.string l[j]) := by
      have := congrArg (fun x => x[j]?) h4
      simp only [Nat.mul_one] at this
      rw [List.getElem?_take, if_pos hj] at this
      rw [this]; simp [strsOf, hj]
    simp [World.cell?, hg]
    simpa using h5

set_option maxHeartbeats 1000000 in
theorem same_any (l : List ByteArray) (v1 v2 : Value) (b1 b2 : Nat) (w : World) (hl : l.length ≤ 16777216) (h1 : w.ownsRow b1 9 1 v1 l.length (strsOf l)) (h2 : w.ownsRow b2 9 1 v2 l.length (strsOf l)) :
    Calls Try.prog 9 #[v1, v2] w fun e w' => e = .returned (.bool true) ∧ ∃ q, w' = w.drewN q := by
  by_cases h0 : l.length = 0
  · obtain ⟨a1, c1, rfl⟩ := row_len h1 h0
    obtain ⟨a2, c2, rfl⟩ := row_len h2 h0
    clear h1 h2 h0
    go_enter Try.func9, Try.ntmps9
    go_wp2_with fail
    go_loopw [5] (fun i wr => i = .int .i64 0 ∧ wr = w) (fun i _ => 0)
    case atStart => exact ⟨rfl, rfl⟩
    case round =>
      obtain ⟨rfl, rfl⟩ := hrel
      go_wp2_with fail
      go_ret
      exact ⟨rfl, 0, rfl⟩
  · obtain ⟨g1, c1, rfl, hb1, hc1⟩ := row_cells h1 (by omega)
    obtain ⟨g2, c2, rfl, hb2, hc2⟩ := row_cells h2 (by omega)
    clear h1 h2 h0
    have H1 := Lib.hid hc1
    have H2 := Lib.hid hc2
    clear hc1 hc2
    have hne : ((l.length : Int) != (l.length : Int)) = false := by simp
    go_enter Try.func9, Try.ntmps9
    go_wp2_with fail
    go_loopw [5] (fun i wr => ∃ k q : Nat, k ≤ l.length ∧ i = .int .i64 (k : Int) ∧ wr = w.drewN q) (fun i _ => l.length - (intOf i).toNat)
    case atStart => exact ⟨0, 0, by omega, rfl, rfl⟩
    case round =>
      obtain ⟨k, q, hk, rfl, rfl⟩ := hrel
      by_cases hlt : k < l.length
      · have hlt' : (k : Int) < l.length := by omega
        have hc1 := H1.out k hlt
        have hc2 := H2.out k hlt
        go_wp2_with fail
        go_quiet (fail)
        go_wp2_with fail
        go_roundw
        case rel => exact ⟨k + 1, _, by omega, by go_num, rfl⟩
        case measure => simp [intOf]; omega
      · have hlt' : ¬ (k : Int) < l.length := by omega
        go_wp2_with fail
        go_ret
        exact ⟨rfl, q, rfl⟩

end Go.Proofs.Ytnbcalldkjbjjaa
