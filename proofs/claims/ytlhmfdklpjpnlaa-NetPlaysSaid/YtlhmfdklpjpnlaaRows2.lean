/- Rows of elements of several cells: read, owned, cloned. -/
import Derived.Test.YtlhmfdklpjpnlaaHeap
import Derived.Laws.AppendOwnNone
namespace Go.RowKit
set_option linter.unusedVariables false

/-- A slice of n elements whose cells (size an element) are read. -/
def RowN (size : Nat) (w : World) (v : Value) (n : Nat) (cs : List Value) : Prop :=
  cs.length = n * size ∧ ((n = 0 ∧ ∃ a cap, v = .slice a 0 cap ∧ (a = none → cap = 0)) ∨ ∃ b off cap, v = .slice (some ⟨b, off, none⟩) n cap ∧ 0 < n ∧ b < w.heap.size ∧ ∀ j u, cs[j]? = some u → w.cell? ⟨b, off + j, none⟩ = some u)

theorem RowN.later {size : Nat} {w w' : World} {v : Value} {n : Nat} {cs : List Value} (h : RowN size w v n cs) (hb : Below w.heap.size w w') : RowN size w' v n cs := by
  refine ⟨h.1, ?_⟩
  rcases h.2 with h | ⟨b, off, cap, h1, h0, h2, h3⟩
  · exact .inl h
  · refine .inr ⟨b, off, cap, h1, h0, Nat.lt_of_lt_of_le h2 hb.size, fun j u hj => ?_⟩
    rw [hb.cell h2]; exact h3 j u hj
theorem RowN.len {size : Nat} {w : World} {v : Value} {n : Nat} {cs : List Value} (h : RowN size w v n cs) : ∃ a cap, v = .slice a n cap := by
  rcases h.2 with ⟨rfl, a, cap, rfl, _⟩ | ⟨b, off, cap, rfl, _⟩
  · exact ⟨_, _, rfl⟩
  · exact ⟨_, _, rfl⟩
theorem RowN.of_own {size : Nat} {w : World} {base n : Nat} {e : TypeId} {v : Value} {cs : List Value} (h : w.ownsRow base e size v n cs) : RowN size w v n cs := by
  refine ⟨h.1, ?_⟩
  rcases h.2 with ⟨rfl, rfl⟩ | ⟨g, cap, cur, rfl, hb, hg, h1, h2, h3, h4⟩
  · exact .inl ⟨rfl, _, _, rfl, fun _ => rfl⟩
  · by_cases h0 : n = 0
    · subst h0; exact .inl ⟨rfl, _, _, rfl, fun h => by cases h⟩
    · refine .inr ⟨g, 0, cap, rfl, by omega, block_lt hg, fun j u hj => ?_⟩
      have hjl := (List.getElem?_eq_some_iff.1 hj).1
      have hcl := h.1
      have h5 : cur.toList[j]? = some u := by
        have := congrArg (fun x => x[j]?) h4
        rw [List.getElem?_take, if_pos (by omega), hj] at this
        exact this
      rw [cell_block hg, Nat.zero_add]
      simpa using h5
/-- What a clone leaves. -/
def ClonePost (e : TypeId) (size : Nat) (w : World) (n : Nat) (cs : List Value) (en : Ending) (w' : World) : Prop :=
  ∃ v', en = .returned v' ∧ w'.ownsRow w.heap.size e size v' n cs ∧ Below w.heap.size w w'
end Go.RowKit
namespace Go
open Go.RowKit
/-- 'append([]T{}, xs...)' of any row: a row of the call's own. -/
theorem wpList_append_row {P : Program} {ops : Array Oper} {rest : List Oper} {o : Oper} {a : Act} {Q : Exit → Act → World → Prop} {W : World} (hgd : o.guard = none) (s x : Operand) (t : TypeId)
    (ho : o.op = .call { callee := .builtin .append, args := #[s, x], argTypes := #[t, t] })
    (e : TypeId) (i : TypeInfo) (z : Value) (size bytes : Nat) (ht : P.underlying t = some (.slice e)) (hi : P.info? e = some i) (hz : i.zero = some z)
    (hsize : i.size = size) (hby : i.bytes = bytes) (hzs : z.cells.size = size) (hsz : 0 < size) (hs : a.eval s = .slice (some ⟨W.heap.size, 0, none⟩) 0 0)
    (v : Value) (n : Nat) (cs : List Value) (hx : a.eval x = v) (hrow : RowN size W v n cs) (h1 : ∀ u ∈ cs, u.oneCell' = true) (h63 : n ≤ maxLen) (hbytes : n * bytes ≤ 140737488355328)
    (h : ∀ v' w', w'.ownsRow W.heap.size e size v' n cs → Below W.heap.size W w' → wpList P ops Q rest (a.put o.dst v') w') :
    wpList P ops Q (o :: rest) a (W.alloc (.cells #[] e)) := by
  have own0 : (W.alloc (.cells #[] e)).ownsRow W.heap.size e size (.slice (some ⟨W.heap.size, 0, none⟩) 0 0) 0 [] := ⟨by simp, .inr ⟨W.heap.size, 0, #[], rfl, Nat.le_refl _, heap_alloc_new W _, Nat.le_refl _, by simp [maxLen], by simp, by simp⟩⟩
  have hb0 : Below W.heap.size W (W.alloc (.cells #[] e)) := (Below.refl _ _).alloc (Nat.le_refl _) _
  obtain ⟨hl, hrow⟩ := hrow
  rcases hrow with ⟨rfl, ad, cap, rfl, hnil⟩ | ⟨b, off, cap, rfl, h0, h2, h3⟩
  · obtain rfl : cs = [] := List.length_eq_zero_iff.1 (by omega)
    cases ad with
    | none =>
      obtain rfl := hnil rfl
      exact wpList_append_own_none hgd s x t ho W.heap.size e i size ht hi _ 0 [] hs own0 hx (h _ _ own0 hb0)
    | some ad =>
      refine wpList_append_own _ hgd s x t ho W.heap.size e i z size bytes ht hi hz hsize hby hzs hsz _ 0 [] hs own0 ad 0 cap [] hx (by simp) (fun j u hu => by simp at hu) (fun u hu => by simp at hu) (by simp [maxLen]) (by omega) (by simp) ?_
      intro v' w' h2 h3 _
      refine h v' w' h2 (hb0.grown h3 (by simp) ?_)
      intro k hk
      have : W.heap.size = k := by simpa [Value.ownBlock] using hk
      omega
  · refine wpList_append_clone hgd s x t ho e i z size bytes ht hi hz hsize hby hzs hsz hs ⟨b, off, none⟩ n cap cs hx hl (fun j u hu => by rw [add_spot]; exact h3 j u hu) h1 h0 h63 hbytes ?_
    intro g cap' w' _ _ ho hb
    exact h _ w' ho hb
end Go
