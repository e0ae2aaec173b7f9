/- Words on memory that several layers share: all but some blocks as they were; a row of cells that is read. -/
import Derived.Test.YthkgbmekiclgmaaFrame
import Derived.Deep.Draws
import Derived.Deep.AppendLies
namespace Go.RowKit
set_option linter.unusedVariables false

/-- All that was there is as it was, but for the blocks of S. -/
structure Spares (S : Nat → Prop) (w w' : World) : Prop where
  os : w'.os = w.os
  tape : w'.tape = w.tape
  output : w'.output = w.output
  size : w.heap.size ≤ w'.heap.size
  block : ∀ k, k < w.heap.size → ¬ S k → w'.heap[k]? = w.heap[k]?

theorem Spares.refl (S : Nat → Prop) (w : World) : Spares S w w := ⟨rfl, rfl, rfl, Nat.le_refl _, fun _ _ _ => rfl⟩
theorem Spares.trans {S : Nat → Prop} {a b c : World} (h : Spares S a b) (k : Spares S b c) : Spares S a c :=
  ⟨k.os.trans h.os, k.tape.trans h.tape, k.output.trans h.output, Nat.le_trans h.size k.size, fun i hi hs => (k.block i (Nat.lt_of_lt_of_le hi h.size) hs).trans (h.block i hi hs)⟩
theorem Spares.mono {S T : Nat → Prop} {a b : World} (h : Spares S a b) (hST : ∀ k, k < a.heap.size → S k → T k) : Spares T a b :=
  ⟨h.os, h.tape, h.output, h.size, fun i hi ht => h.block i hi fun hs => ht (hST i hi hs)⟩
theorem Below.spares {w w' : World} (h : Below w.heap.size w w') (S : Nat → Prop) : Spares S w w' := ⟨h.os, h.tape, h.output, h.size, fun k hk _ => h.block k hk⟩
/-- What lies below B is as it was if S lies from B on. -/
theorem Spares.below {S : Nat → Prop} {w w' : World} {B : Nat} (h : Spares S w w') (hB : B ≤ w.heap.size) (hS : ∀ k, S k → B ≤ k) : Below B w w' :=
  ⟨h.os, h.tape, h.output, h.size, fun k hk => h.block k (by omega) fun hs => absurd (hS k hs) (by omega)⟩
theorem Spares.setCell {S : Nat → Prop} {w w' : World} (h : Spares S w w') {a : Addr} {v : Value} (ha : S a.block) : Spares S w (w'.setCell a v) := by
  refine ⟨h.os, h.tape, h.output, by simpa [World.setCell] using h.size, fun k hk hs => ?_⟩
  rw [← h.block k hk hs]
  have hne : k ≠ a.block := fun e => hs (e ▸ ha)
  simp only [World.setCell, Array.getElem?_modify]
  rw [if_neg (fun e => hne e.symm)]
theorem Spares.set1 {g j : Nat} {w w' : World} {v : Value} (h : Spares (· = g) w w') : Spares (· = g) w (w'.setCell ⟨g, j, none⟩ v) := h.setCell (a := ⟨g, j, none⟩) rfl
theorem Spares.setAt {S : Nat → Prop} {w w' : World} (h : Spares S w w') {g j : Nat} {v : Value} (hg : S g) : Spares S w (w'.setCell ⟨g, j, none⟩ v) := h.setCell (a := ⟨g, j, none⟩) hg
theorem Spares.cell {S : Nat → Prop} {w w' : World} (h : Spares S w w') {p : Addr} (hp : p.block < w.heap.size) (hs : ¬ S p.block) : w'.cell? p = w.cell? p := World.cell?_of_block (w := w) (h.block p.block hp hs)
theorem Spares.alloc {S : Nat → Prop} {w w' : World} (h : Spares S w w') (o : Obj) : Spares S w (w'.alloc o) :=
  h.trans (Below.spares ((Below.refl _ _).alloc (Nat.le_refl _) o) S)
theorem Spares.drew {S : Nat → Prop} {w w' : World} (h : Spares S w w') : Spares S w w'.drew := ⟨h.os, h.tape, h.output, h.size, h.block⟩
theorem Spares.drewN {S : Nat → Prop} {w w' : World} (h : Spares S w w') (n : Nat) : Spares S w (w'.drewN n) := ⟨h.os, h.tape, h.output, h.size, h.block⟩
theorem below_drewN (B : Nat) (w : World) (n : Nat) : Below B w (w.drewN n) := ⟨rfl, rfl, rfl, Nat.le_refl _, fun _ _ => rfl⟩

theorem block_lt {w : World} {k : Nat} {o : Obj} (h : w.heap[k]? = some o) : k < w.heap.size := by
  rcases Nat.lt_or_ge k w.heap.size with h1 | h1
  · exact h1
  · rw [Array.getElem?_eq_none h1] at h; cases h
/-- The block behind a store into it. -/
theorem block_setCell {w : World} {g j : Nat} {cs : Array Value} {t : TypeId} {fr : Nat × Nat} {v : Value} (h : w.heap[g]? = some (.cells cs t fr)) : (w.setCell ⟨g, j, none⟩ v).heap[g]? = some (.cells (cs.setIfInBounds j v) t fr) := by
  simp only [World.setCell, Array.getElem?_modify]
  rw [if_pos trivial, h]; rfl
theorem cell_block {w : World} {g j : Nat} {cs : Array Value} {t : TypeId} {fr : Nat × Nat} (h : w.heap[g]? = some (.cells cs t fr)) : w.cell? ⟨g, j, none⟩ = cs[j]? := by
  simp [World.cell?, h]
theorem free_block {w : World} {g j : Nat} {cs : Array Value} {t : TypeId} (h : w.heap[g]? = some (.cells cs t (0, 0))) : w.frozen? ⟨g, j, none⟩ = false := by
  simp [World.frozen?, h]

theorem alloc2_first (w : World) (o p : Obj) : ((w.alloc o).alloc p).heap[w.heap.size]? = some o := by
  rw [((Below.refl (w.alloc o).heap.size (w.alloc o)).alloc (Nat.le_refl _) p).block _ (by simp)]
  exact heap_alloc_new w o
theorem alloc2_second (w : World) (o p : Obj) : ((w.alloc o).alloc p).heap[w.heap.size + 1]? = some p := by
  have := heap_alloc_new (w.alloc o) p
  rw [World.size_alloc] at this; exact this
/-- A slice whose cells (one an element) are read. -/
def RowAt (w : World) (v : Value) (cs : List Value) : Prop :=
  (cs = [] ∧ ∃ a cap, v = .slice a 0 cap) ∨ ∃ b off cap, v = .slice (some ⟨b, off, none⟩) cs.length cap ∧ 0 < cs.length ∧ b < w.heap.size ∧ ∀ j (hj : j < cs.length), w.cell? ⟨b, off + j, none⟩ = some cs[j]

theorem RowAt.later {w w' : World} {v : Value} {cs : List Value} (h : RowAt w v cs) (hb : Below w.heap.size w w') : RowAt w' v cs := by
  rcases h with h | ⟨b, off, cap, h1, h0, h2, h3⟩
  · exact .inl h
  · refine .inr ⟨b, off, cap, h1, h0, Nat.lt_of_lt_of_le h2 hb.size, fun j hj => ?_⟩
    rw [hb.cell h2]; exact h3 j hj
theorem RowAt.spares {S : Nat → Prop} {w w' : World} {b off len cap : Nat} {cs : List Value} (h : RowAt w (.slice (some ⟨b, off, none⟩) len cap) cs) (hb : Spares S w w') (hs : ¬ S b) : RowAt w' (.slice (some ⟨b, off, none⟩) len cap) cs := by
  rcases h with h | ⟨b', off', cap', h1, h0, h2, h3⟩
  · exact .inl h
  · injection h1 with e1 e2 e3
    injection e1 with e1; injection e1 with e4 e5 _
    subst e4 e5 e2 e3
    refine .inr ⟨b, off, cap, rfl, h0, Nat.lt_of_lt_of_le h2 hb.size, fun j hj => ?_⟩
    rw [hb.cell h2 hs]; exact h3 j hj
theorem RowAt.len {w : World} {v : Value} {cs : List Value} (h : RowAt w v cs) : ∃ a cap, v = .slice a cs.length cap := by
  rcases h with ⟨rfl, a, cap, rfl⟩ | ⟨b, off, cap, rfl, _⟩
  · exact ⟨_, _, rfl⟩
  · exact ⟨_, _, rfl⟩
theorem RowAt.of_own {w : World} {base n : Nat} {e : TypeId} {v : Value} {cs : List Value} (h : w.ownsRow base e 1 v n cs) : RowAt w v cs := by
  have hl : cs.length = n := by have := h.1; omega
  rcases h.2 with ⟨rfl, rfl⟩ | ⟨g, cap, cur, rfl, hb, hg, h1, h2, h3, h4⟩
  · exact .inl ⟨List.length_eq_zero_iff.1 hl, _, _, rfl⟩
  · by_cases h0 : n = 0
    · subst h0; exact .inl ⟨List.length_eq_zero_iff.1 hl, _, _, rfl⟩
    · refine .inr ⟨g, 0, cap, by rw [hl], by omega, block_lt hg, fun j hj => ?_⟩
      have h5 : cur.toList[j]? = some cs[j] := by
        have := congrArg (fun x => x[j]?) h4
        simp only [Nat.mul_one] at this
        rw [List.getElem?_take, if_pos (by omega), List.getElem?_eq_getElem hj] at this
        exact this
      rw [cell_block hg, Nat.zero_add]
      simpa using h5
/-- An owned row as it was, if its block was spared. -/
theorem own_spares {S : Nat → Prop} {w w1 : World} {base n size : Nat} {e : TypeId} {v : Value} {xs : List Value} (h : w.ownsRow base e size v n xs) (hb : Spares S w w1) (hs : ∀ g, v.ownBlock = some g → ¬ S g) : w1.ownsRow base e size v n xs := by
  refine ⟨h.1, ?_⟩
  rcases h.2 with h2 | ⟨g, cap, cur, h1, h2, h3, h4⟩
  · exact .inl h2
  · exact .inr ⟨g, cap, cur, h1, h2, (hb.block g (block_lt h3) (hs g (by rw [h1]; rfl))).trans h3, h4⟩
theorem own_block {w : World} {base n size : Nat} {e : TypeId} {v : Value} {xs : List Value} (h : w.ownsRow base e size v n xs) {g : Nat} (hg : v.ownBlock = some g) : base ≤ g ∧ ∃ cur, w.heap[g]? = some (.cells cur e (0, 0)) := by
  rcases h.2 with ⟨rfl, _⟩ | ⟨g', cap, cur, rfl, hb, h3, _⟩
  · cases hg
  · have : g' = g := by simpa [Value.ownBlock] using hg
    subst this; exact ⟨hb, cur, h3⟩
/-- A block of another kind than the row's is as it was behind an append to the row. -/
theorem append_keeps {ws w4 : World} {g base n size : Nat} {cs : Array Value} {T e : TypeId} {fr : Nat × Nat} {v : Value} {xs : List Value} {o : Obj} (h4 : ws.heap[g]? = some (.cells cs T fr)) (h5 : ws.ownsRow base e size v n xs) (hne : T ≠ e)
    (hg : (ws.alloc o).grownBy w4 v.ownBlock) : w4.heap[g]? = some (.cells cs T fr) := by
  have hlt := block_lt h4
  rw [hg.block g (by simp; omega) ?_, ← h4]
  · exact ((Below.refl _ _).alloc (Nat.le_refl _) o : Below ws.heap.size ws (ws.alloc o)).block g hlt
  · intro e'
    obtain ⟨_, cur, hc⟩ := own_block h5 e'.symm
    rw [h4] at hc
    injection hc with hc; injection hc with _ hc _; exact hne hc
theorem own_mono {w : World} {base base' n size : Nat} {e : TypeId} {v : Value} {xs : List Value} (h : w.ownsRow base e size v n xs) (hb : base' ≤ base) : w.ownsRow base' e size v n xs := by
  refine ⟨h.1, ?_⟩
  rcases h.2 with h2 | ⟨g, cap, cur, h1, h2, h3⟩
  · exact .inl h2
  · exact .inr ⟨g, cap, cur, h1, Nat.le_trans hb h2, h3⟩
end Go.RowKit
namespace Go
open Go.RowKit
/-- 'append([]T{}, xs...)' of a row that is not empty: a row of the call's own. -/
theorem wpList_append_clone {P : Program} {ops : Array Oper} {rest : List Oper} {o : Oper} {a : Act} {Q : Exit → Act → World → Prop} {W : World} (hgd : o.guard = none) (s x : Operand) (t : TypeId)
    (ho : o.op = .call { callee := .builtin .append, args := #[s, x], argTypes := #[t, t] })
    (e : TypeId) (i : TypeInfo) (z : Value) (size bytes : Nat) (ht : P.underlying t = some (.slice e)) (hi : P.info? e = some i) (hz : i.zero = some z)
    (hsize : i.size = size) (hby : i.bytes = bytes) (hzs : z.cells.size = size) (hsz : 0 < size) (hs : a.eval s = .slice (some ⟨W.heap.size, 0, none⟩) 0 0)
    (ad : Addr) (m c : Nat) (news : List Value) (hx : a.eval x = .slice (some ad) m c) (hl : news.length = m * size) (hnews : ∀ j u, news[j]? = some u → W.cell? (ad.add j) = some u) (h1 : ∀ u ∈ news, u.oneCell' = true)
    (hm : 0 < m) (h63 : m ≤ maxLen) (hbytes : m * bytes ≤ 140737488355328)
    (h : ∀ g cap w', W.heap.size ≤ g → g < w'.heap.size → w'.ownsRow W.heap.size e size (.slice (some ⟨g, 0, none⟩) m cap) m news → Below W.heap.size W w' → wpList P ops Q rest (a.put o.dst (.slice (some ⟨g, 0, none⟩) m cap)) w') :
    wpList P ops Q (o :: rest) a (W.alloc (.cells #[] e)) := by
  refine wpList_append_lies _ hgd s x t ho W.heap.size e i z size bytes ht hi hz hsize hby hzs hsz (.slice (some ⟨W.heap.size, 0, none⟩) 0 0) 0 [] hs ⟨by simp, .inr ⟨W.heap.size, 0, #[], rfl, Nat.le_refl _, heap_alloc_new W _, Nat.le_refl _, by simp [maxLen], by simp, by simp⟩⟩ ad m c news hx hl
    (fun j u hu => ?_) h1 hm (by omega) (by rw [Nat.zero_add]; exact hbytes) (by simp) (W.heap.size + 1) (by simp) ?_
  · have := hnews j u hu
    rw [World.cell?_alloc_lt _ _ _ (World.block_lt_of_cell? W _ this)]; exact this
  · intro g cap w' h2 h3 h4 h5
    rw [Nat.zero_add, List.nil_append] at h2
    rw [Nat.zero_add]
    refine h g cap w' ?_ h5 h2 (((Below.refl _ _).alloc (Nat.le_refl _) _).grown h3 (by simp) ?_)
    · rcases h4 with h4 | h4
      · have : W.heap.size = g := by simpa [Value.ownBlock] using h4
        omega
      · omega
    · intro k hk
      have : W.heap.size = k := by simpa [Value.ownBlock] using hk
      omega
end Go
