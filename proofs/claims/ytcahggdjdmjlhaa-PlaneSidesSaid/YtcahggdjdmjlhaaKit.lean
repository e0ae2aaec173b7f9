/- Laws of the walk that several functions share: a scope whose label is reached first by falling into it, then by jumps. -/
import Derived.Test.YtcahggdjdmjlhaaRows
import Derived.WalkKit
import Derived.WalkSpells
import Derived.WalkLawsBesides
import Derived.ScopeJumps
import Derived.Lib.Hide
namespace Go
section
variable {P : Program} {a : Act} {w : World} {Q : Exit → Act → World → Prop}

/-- A scope with one label that is jumped back to: 'pass' is walked once; the way that falls into the label uses it too. -/
theorem wp_scope_falls {c y : Code} (l : Nat) (J : Act → World → Prop) (μ : Act → World → Nat) (hf : findLabel c l = some (.seq .skip y))
    (pass : ∀ a w, J a w → y.wp P (Exit.jump l (fun a' w' => J a' w' ∧ μ a' w' < μ a w) Q) a w)
    (first : RowKit.Hid (∀ a w, J a w → y.wp P (Exit.jump l J Q) a w) → c.wp P (Exit.jump l J Q) a w) : (Code.scope c).wp P Q a w := by
  refine wp_scope_jumps l J μ hf (first fun a w hJ => wp_mono (pass a w hJ) ?_) (fun a w hJ => wp_seq (wp_skip (pass a w hJ)))
  intro e a' w' h
  cases e with
  | goto l' => exact ⟨h.1, h.2.1⟩
  | normal => exact h
  | exit id => exact h
  | ret => exact h
  | panic ch => exact h
  | outgrown => exact h
end

theorem ret_bool {b c : Bool} (h : b = c) : Ending.returned (.bool b) = .returned (.bool c) := by rw [h]

/-- What two calls, one behind the other, leave as it was. -/
theorem below_two {w w1 w2 : World} (h1 : RowKit.Below w.heap.size w w1) (h2 : RowKit.Below w1.heap.size w1 w2) : RowKit.Below w.heap.size w w2 := h1.trans (h2.mono h1.size)
end Go
