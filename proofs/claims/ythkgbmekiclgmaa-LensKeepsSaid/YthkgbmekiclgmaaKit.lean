/- Laws of the walk that several functions share: a scope whose label is reached first by falling into it, then by jumps. -/
import Derived.Test.YthkgbmekiclgmaaRows
import Derived.WalkKit
import Derived.WalkSpells
import Derived.WalkLawsBesides
import Derived.ScopeJumps
import Derived.Lib.Hide
namespace Go
section
variable {P : Program} {a : Act} {w : World} {Q : Exit → Act → World → Prop}

/-- A scope with one label that is jumped back to: 'pass' is walked once; the way that falls into the label uses it too. -/
theorem wp_scope_falls {c y : Code} (l : Nat) (J : Act → World → Prop) (μ : Act → World → Nat) (hf : findLabel c l = some (.seq .skip y))
    (pass : ∀ a w, J a w → y.wp P (Exit.jump l (fun a' w' => J a' w' ∧ μ a' w' < μ a w) Q) a w)
    (first : RowKit.Hid (∀ a w, J a w → y.wp P (Exit.jump l J Q) a w) → c.wp P (Exit.jump l J Q) a w) : (Code.scope c).wp P Q a w := by
  refine wp_scope_jumps l J μ hf (first fun a w hJ => wp_mono (pass a w hJ) ?_) (fun a w hJ => wp_seq (wp_skip (pass a w hJ)))
  intro e a' w' h
  cases e with
  | goto l' => exact ⟨h.1, h.2.1⟩
  | normal => exact h
  | exit id => exact h
  | ret => exact h
  | panic ch => exact h
  | outgrown => exact h
end

theorem ret_bool {b c : Bool} (h : b = c) : Ending.returned (.bool b) = .returned (.bool c) := by rw [h]

theorem get_list (s : ByteArray) (k : Nat) (h : k < s.size) : s.data.toList[k]'(by simpa using h) = s[k] := by simp; rfl
theorem ret_i64 {a b : Int} (h : a = b) : Ending.returned (.int .i64 a) = .returned (.int .i64 b) := by rw [h]

theorem ret2_i64 {a b c d : Int} (h : (a, b) = (c, d)) : Ending.returned (.tuple #[.int .i64 a, .int .i64 b]) = .returned (.tuple #[.int .i64 c, .int .i64 d]) := by injection h with h1 h2; rw [h1, h2]

theorem ret3_i64 {a b c a' b' c' : Int} (h : (a, b, c) = (a', b', c')) : Ending.returned (.tuple #[.int .i64 a, .int .i64 b, .int .i64 c]) = .returned (.tuple #[.int .i64 a', .int .i64 b', .int .i64 c']) := by
  injection h with h1 h2; injection h2 with h2 h3; rw [h1, h2, h3]

theorem i64_of_wf {n : Int} (h : (Lit.int .i64 n).wf = true) : -9223372036854775808 ≤ n ∧ n ≤ 9223372036854775807 := by
  simpa [Lit.wf, IntKind.min, IntKind.max, IntKind.signed, IntKind.bits] using h

/-- As Q; by a goto to label l: J l. -/
def Exit.jumps (J : Nat → Act → World → Prop) (Q : Exit → Act → World → Prop) : Exit → Act → World → Prop
  | .goto l, a, w => J l a w
  | e, a, w => Q e a w

section
variable {P : Program} {a : Act} {w : World} {Q : Exit → Act → World → Prop}

/-- A scope with labels that are jumped to: what holds at each, and a measure that every pass from a label lowers. -/
theorem wp_scope_labels {c : Code} (J : Nat → Act → World → Prop) (μ : Nat → Act → World → Nat) (R : Nat → Code) (hf : ∀ l a w, J l a w → findLabel c l = some (R l))
    (first : c.wp P (Exit.jumps J Q) a w)
    (pass : ∀ l a w, J l a w → (R l).wp P (Exit.jumps (fun l' a' w' => J l' a' w' ∧ μ l' a' w' < μ l a w) Q) a w) : (Code.scope c).wp P Q a w := by
  intro b k cs
  have key : ∀ n l a w, μ l a w = n → J l a w → ∃ e a' w', Q e a' w' ∧ Arrives P (lone (b.at a (.code (R l) :: .inScope c :: k)) cs w) b k cs e a' w' := by
    intro n
    induction n using Nat.strongRecOn with
    | _ n ih =>
      intro l a w hn hJ
      obtain ⟨e, a₁, w₁, hq, harr⟩ := pass l a w hJ b (.inScope c :: k) cs
      cases e with
      | normal => exact ⟨.normal, a₁, w₁, hq, Steps.trans harr (.one step_inScope)⟩
      | exit id => exact ⟨.exit id, a₁, w₁, hq, fun k' hk => harr k' (by simp [exitTo, hk])⟩
      | goto l' =>
        obtain ⟨hJ', hlt⟩ := hq
        have hg : gotoIn l' (.inScope c :: k) = some (.code (R l') :: .inScope c :: k) := by simp [gotoIn, hf l' a₁ w₁ hJ']
        obtain ⟨e₂, a₂, w₂, hq₂, harr₂⟩ := ih _ (by omega) l' a₁ w₁ rfl hJ'
        exact ⟨e₂, a₂, w₂, hq₂, .of_steps (harr _ hg) harr₂⟩
      | ret => exact ⟨_, a₁, w₁, hq, harr⟩
      | panic ch => exact ⟨_, a₁, w₁, hq, harr⟩
      | outgrown => exact ⟨_, a₁, w₁, hq, harr⟩
  obtain ⟨e, a₁, w₁, hq, harr⟩ := first b (.inScope c :: k) cs
  cases e with
  | normal => exact ⟨.normal, a₁, w₁, hq, .head step_scope (Steps.trans harr (.one step_inScope))⟩
  | exit id => exact ⟨.exit id, a₁, w₁, hq, fun k' hk => .head step_scope (harr k' (by simp [exitTo, hk]))⟩
  | goto l' =>
    have hg : gotoIn l' (.inScope c :: k) = some (.code (R l') :: .inScope c :: k) := by simp [gotoIn, hf l' a₁ w₁ hq]
    obtain ⟨e₂, a₂, w₂, hq₂, harr₂⟩ := key _ l' a₁ w₁ rfl hq
    exact ⟨e₂, a₂, w₂, hq₂, .of_steps (.head step_scope (harr _ hg)) harr₂⟩
  | ret => exact ⟨_, a₁, w₁, hq, .of_steps (.one step_scope) harr⟩
  | panic ch => exact ⟨_, a₁, w₁, hq, .of_steps (.one step_scope) harr⟩
  | outgrown => exact ⟨_, a₁, w₁, hq, .of_steps (.one step_scope) harr⟩

/-- What holds at three labels. -/
def three (J0 J1 J2 : Act → World → Prop) : Nat → Act → World → Prop
  | 0 => J0
  | 1 => J1
  | 2 => J2
  | _ => fun _ _ => False
def threeN (m0 m1 m2 : Act → World → Nat) : Nat → Act → World → Nat
  | 0 => m0
  | 1 => m1
  | _ => m2

/-- A scope with three labels; the first is also fallen into. -/
theorem wp_scope_three {c y0 y1 y2 : Code} (J0 J1 J2 : Act → World → Prop) (m0 m1 m2 : Act → World → Nat)
    (h0 : findLabel c 0 = some (.seq .skip y0)) (h1 : findLabel c 1 = some (.seq .skip y1)) (h2 : findLabel c 2 = some (.seq .skip y2))
    (p0 : ∀ a w, J0 a w → y0.wp P (Exit.jumps (fun l' a' w' => three J0 J1 J2 l' a' w' ∧ threeN m0 m1 m2 l' a' w' < m0 a w) Q) a w)
    (p1 : ∀ a w, J1 a w → y1.wp P (Exit.jumps (fun l' a' w' => three J0 J1 J2 l' a' w' ∧ threeN m0 m1 m2 l' a' w' < m1 a w) Q) a w)
    (p2 : ∀ a w, J2 a w → y2.wp P (Exit.jumps (fun l' a' w' => three J0 J1 J2 l' a' w' ∧ threeN m0 m1 m2 l' a' w' < m2 a w) Q) a w)
    (first : RowKit.Hid (∀ a w, J0 a w → y0.wp P (Exit.jumps (three J0 J1 J2) Q) a w) → c.wp P (Exit.jumps (three J0 J1 J2) Q) a w) : (Code.scope c).wp P Q a w := by
  refine wp_scope_labels (three J0 J1 J2) (threeN m0 m1 m2) (fun l => .seq .skip (match l with | 0 => y0 | 1 => y1 | _ => y2)) ?_ (first fun a w hJ => wp_mono (p0 a w hJ) ?_) ?_
  · intro l a w hJ
    match l, hJ with
    | 0, _ => exact h0
    | 1, _ => exact h1
    | 2, _ => exact h2
  · intro e a' w' h
    cases e with
    | goto l' => exact h.1
    | normal => exact h
    | exit id => exact h
    | ret => exact h
    | panic ch => exact h
    | outgrown => exact h
  · intro l a w hJ
    match l, hJ with
    | 0, hJ => exact wp_seq (wp_skip (p0 a w hJ))
    | 1, hJ => exact wp_seq (wp_skip (p1 a w hJ))
    | 2, hJ => exact wp_seq (wp_skip (p2 a w hJ))

/-- One more element of one cell onto a row of the call's own. -/
theorem wpList_append_one {ops : Array Oper} {rest : List Oper} {o : Oper} (hgd : o.guard = none) (s x : Operand) (t : TypeId)
    (ho : o.op = .call { callee := .builtin .append, args := #[s, x], argTypes := #[t, t] })
    (base : Nat) (e : TypeId) (i : TypeInfo) (z : Value) (bytes : Nat) (ht : P.underlying t = some (.slice e)) (hi : P.info? e = some i) (hz : i.zero = some z)
    (hsize : i.size = 1) (hby : i.bytes = bytes) (hzs : z.cells.size = 1) (te : TypeId) (u : Value) (h1 : u.oneCell' = true)
    (v : Value) (n : Nat) (xs : List Value) (hs : a.eval s = v) (hown : w.ownsRow base e 1 v n xs) (hx : a.eval x = .slice (some ⟨w.heap.size, 0, none⟩) 1 1)
    (h63 : n + 1 ≤ maxLen) (hbytes : (n + 1) * bytes ≤ 140737488355328) (hbase : base ≤ w.heap.size)
    (h : ∀ v' w', w'.ownsRow base e 1 v' (n + 1) (xs ++ [u]) → RowKit.Below base w w' → wpList P ops Q rest (a.put o.dst v') w') : wpList P ops Q (o :: rest) a (w.alloc (.cells #[u] te)) := by
  refine wpList_append_own _ hgd s x t ho base e i z 1 bytes ht hi hz hsize hby hzs (by omega) v n xs hs (hown.alloc _) ⟨w.heap.size, 0, none⟩ 1 1 [u] hx rfl ?_ ?_ h63 hbytes (by simp; omega) ?_
  · exact cell_one_new _ _ _
  · intro y hy
    obtain rfl : y = u := by simpa using hy
    exact h1
  · intro v' w' hown' hg _
    refine h v' w' hown' (((RowKit.Below.refl _ _).alloc hbase _).grown hg (by simp; omega) ?_)
    intro g hg'
    rcases hown.2 with ⟨rfl, _⟩ | ⟨g', cap, cur, rfl, hb, _⟩
    · simp [Value.ownBlock] at hg'
    · simp [Value.ownBlock] at hg'; omega
end

/-- A row of the call's own is as it was behind what leaves all that was there. -/
theorem own_later {w w1 : World} {base n size : Nat} {e : TypeId} {v : Value} {xs : List Value} (h : w.ownsRow base e size v n xs) (hb : RowKit.Below w.heap.size w w1) : w1.ownsRow base e size v n xs := by
  refine ⟨h.1, ?_⟩
  rcases h.2 with h2 | ⟨g, cap, cur, h1, h2, h3, h4⟩
  · exact .inl h2
  · have hlt : g < w.heap.size := by
      rcases Nat.lt_or_ge g w.heap.size with hlt | hge
      · exact hlt
      · rw [Array.getElem?_eq_none hge] at h3; cases h3
    exact .inr ⟨g, cap, cur, h1, h2, (hb.block g hlt).trans h3, h4⟩

/-- Behind an append to a row of the call's own: what lies below the base is as it was. -/
theorem below_append {w W w1 : World} {base n size : Nat} {e : TypeId} {v : Value} {xs : List Value} (h : w.ownsRow base e size v n xs) (hW : RowKit.Below base w W) (hbase : base ≤ W.heap.size) (hg : W.grownBy w1 v.ownBlock) : RowKit.Below base w w1 := by
  refine hW.grown hg hbase ?_
  intro g hg'
  rcases h.2 with ⟨rfl, _⟩ | ⟨g', cap, cur, rfl, hb, _⟩
  · simp [Value.ownBlock] at hg'
  · simp [Value.ownBlock] at hg'; omega

/-- What two calls, one behind the other, leave as it was. -/
theorem below_two {w w1 w2 : World} (h1 : RowKit.Below w.heap.size w w1) (h2 : RowKit.Below w1.heap.size w1 w2) : RowKit.Below w.heap.size w w2 := h1.trans (h2.mono h1.size)
end Go
