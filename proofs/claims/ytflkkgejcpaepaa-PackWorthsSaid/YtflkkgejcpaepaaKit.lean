/- Laws of the walk that several functions share: a scope whose label is reached first by falling into it, then by jumps. -/
import Derived.Test.YtflkkgejcpaepaaRows
import Derived.WalkKit
import Derived.WalkSpells
import Derived.WalkLawsBesides
import Derived.ScopeJumps
import Derived.Lib.Hide
namespace Go
section
variable {P : Program} {a : Act} {w : World} {Q : Exit → Act → World → Prop}

/-- A scope with one label that is jumped back to: 'pass' is walked once; the way that falls into the label uses it too. -/
theorem wp_scope_falls {c y : Code} (l : Nat) (J : Act → World → Prop) (μ : Act → World → Nat) (hf : findLabel c l = some (.seq .skip y))
    (pass : ∀ a w, J a w → y.wp P (Exit.jump l (fun a' w' => J a' w' ∧ μ a' w' < μ a w) Q) a w)
    (first : RowKit.Hid (∀ a w, J a w → y.wp P (Exit.jump l J Q) a w) → c.wp P (Exit.jump l J Q) a w) : (Code.scope c).wp P Q a w := by
  refine wp_scope_jumps l J μ hf (first fun a w hJ => wp_mono (pass a w hJ) ?_) (fun a w hJ => wp_seq (wp_skip (pass a w hJ)))
  intro e a' w' h
  cases e with
  | goto l' => exact ⟨h.1, h.2.1⟩
  | normal => exact h
  | exit id => exact h
  | ret => exact h
  | panic ch => exact h
  | outgrown => exact h
end

theorem ret_bool {b c : Bool} (h : b = c) : Ending.returned (.bool b) = .returned (.bool c) := by rw [h]

theorem get_list (s : ByteArray) (k : Nat) (h : k < s.size) : s.data.toList[k]'(by simpa using h) = s[k] := by simp; rfl
theorem ret_i64 {a b : Int} (h : a = b) : Ending.returned (.int .i64 a) = .returned (.int .i64 b) := by rw [h]

theorem ret2_i64 {a b c d : Int} (h : (a, b) = (c, d)) : Ending.returned (.tuple #[.int .i64 a, .int .i64 b]) = .returned (.tuple #[.int .i64 c, .int .i64 d]) := by injection h with h1 h2; rw [h1, h2]

theorem ret3_i64 {a b c a' b' c' : Int} (h : (a, b, c) = (a', b', c')) : Ending.returned (.tuple #[.int .i64 a, .int .i64 b, .int .i64 c]) = .returned (.tuple #[.int .i64 a', .int .i64 b', .int .i64 c']) := by
  injection h with h1 h2; injection h2 with h2 h3; rw [h1, h2, h3]

theorem i64_of_wf {n : Int} (h : (Lit.int .i64 n).wf = true) : -9223372036854775808 ≤ n ∧ n ≤ 9223372036854775807 := by
  simpa [Lit.wf, IntKind.min, IntKind.max, IntKind.signed, IntKind.bits] using h

/-- What two calls, one behind the other, leave as it was. -/
theorem below_two {w w1 w2 : World} (h1 : RowKit.Below w.heap.size w w1) (h2 : RowKit.Below w1.heap.size w1 w2) : RowKit.Below w.heap.size w w2 := h1.trans (h2.mono h1.size)
end Go
