/- The calls of the law NetPlays, in memory. -/
import Derived.Test.YtlhmfdklpjpnlaaNetPair
import Derived.Laws.FloatArith
namespace Go.Proofs.Ytlhmfdklpjpnlaa
open Go.RowKit Punnet.Flt
set_option linter.unusedVariables false
attribute [local go_sem] store_complex

theorem pairApart {w0 w : World} {v0 v1 : Value} {rs is : List Int} {g gm : Nat} (hj : J w0 v0 v1 rs is g gm w) (a b : Int) :
    ∃ v, Hid (Calls Try.prog 10 #[.pointer (some ⟨g, 0, none⟩), .int .i64 a, .int .i64 b] w fun e w' => e = .returned (.bool v) ∧ Below w.heap.size w w') ∧
      Hid (∀ W, Below w.heap.size w W → Calls Try.prog 23 #[.pointer (some ⟨gm, 0, none⟩), .int .i64 a, .int .i64 b] W fun e w' => e = .returned (.bool v) ∧ Below W.heap.size W w') := by
  obtain ⟨pa, ml, L, M, cut, X, Y, O, x, y, o, h1, h2, h3, h4, h5, h6, h7⟩ := hj
  exact ⟨_, apart_is h1 rfl, fun W hW => refApart_any (h3.later hW) a b (h5.apart _ a b)⟩

/-- A call of the law, in memory. -/
def ActAt (w : World) (b o k : Nat) : Prop := ∃ (K r m f A B N : Int) (bv : Value) (bs : List UInt8),
  w.cell? ⟨b, o + k * 8, none⟩ = some (.int .i64 K) ∧ w.cell? ⟨b, o + k * 8 + 1, none⟩ = some (.int .i64 r) ∧ w.cell? ⟨b, o + k * 8 + 2, none⟩ = some (.int .i64 m) ∧ w.cell? ⟨b, o + k * 8 + 3, none⟩ = some (.int .i64 f) ∧
  w.cell? ⟨b, o + k * 8 + 4, none⟩ = some (.int .i64 A) ∧ w.cell? ⟨b, o + k * 8 + 5, none⟩ = some (.int .i64 B) ∧ w.cell? ⟨b, o + k * 8 + 6, none⟩ = some (.int .i64 N) ∧ w.cell? ⟨b, o + k * 8 + 7, none⟩ = some bv ∧
  RowN 1 w bv bs.length (u8s bs) ∧ bs.length ≤ 9223372036854775807 ∧ (-9223372036854775808 ≤ f ∧ f ≤ 9223372036854775807)

theorem reads_acts {w : World} {a0 : Option Addr} {l c : Nat} (h : Reads Try.prog w 32 [.slice a0 l c]) : l = 0 ∨ (l ≤ 9223372036854775807 ∧ ∃ b o, a0 = some ⟨b, o, none⟩ ∧ b < w.heap.size ∧ ∀ k < l, ActAt w b o k) := by
  have hce : Try.prog.cellsOf 42 = 8 := by kernel_rfl
  rcases h.slice Try.underlying32 with h | ⟨a, len, cap, h, h1, h2, h3⟩
  · injection h with h; injection h with _ h5 _; exact .inl h5
  · injection h with h; injection h with h4 h5 h6
    subst h4 h5 h6
    by_cases hl : l = 0
    · exact .inl hl
    · right
      obtain ⟨es, q1, q2, q3⟩ := h3 0 (by omega)
      rw [hce] at q1
      have c0 := q2 0 (by omega)
      have e0 : (a.add (0 * Try.prog.cellsOf 42)).add 0 = a := by simp [Addr.add]
      rw [e0] at c0
      have ea := addr_of_cell c0
      refine ⟨by unfold maxLen at h2; omega, a.block, a.off, by rw [← ea], World.block_lt_of_cell? w _ c0, fun k hk => ?_⟩
      obtain ⟨es, q1, q2, q3⟩ := h3 k hk
      rw [hce] at q1 q2
      obtain ⟨_, hf⟩ := q3.struct Try.underlying42
      match es, q1, q2, hf with
      | [x0, x1, x2, x3, x4, x5, x6, x7], _, q2, hf =>
        have i64c : ∀ (t : TypeId) (x : Value), Try.prog.underlying t = some (.int .i64) → Reads Try.prog w t [x] → ∃ n, x = .int .i64 n ∧ (-9223372036854775808 ≤ n ∧ n ≤ 9223372036854775807) := by
          intro t x ht hr
          obtain ⟨n, hn, hw⟩ := hr.int ht
          injection hn with hn
          exact ⟨n, hn, i64_of_wf hw⟩
        have c3 : Try.prog.cellsOf 3 = 1 := by kernel_rfl
        have c2 : Try.prog.cellsOf 2 = 1 := by kernel_rfl
        have c40 : Try.prog.cellsOf 40 = 1 := by kernel_rfl
        simp only [List.forall_mem_cons, List.not_mem_nil, false_implies, implies_true, and_true, c3, c2, c40, List.drop_zero, List.drop_succ_cons, List.take_succ_cons, List.take_zero] at hf
        obtain ⟨f0, f1, f2, f3, f4, f5, f6, f7⟩ := hf
        obtain ⟨K, rfl, _⟩ := i64c _ _ Try.underlying3 f0
        obtain ⟨r, rfl, _⟩ := i64c _ _ Try.underlying2 f1
        obtain ⟨m, rfl, _⟩ := i64c _ _ Try.underlying2 f2
        obtain ⟨f, rfl, hfb⟩ := i64c _ _ Try.underlying2 f3
        obtain ⟨A, rfl, _⟩ := i64c _ _ Try.underlying3 f4
        obtain ⟨B, rfl, _⟩ := i64c _ _ Try.underlying3 f5
        obtain ⟨N, rfl, _⟩ := i64c _ _ Try.underlying3 f6
        have hsl : ∃ a l c, x7 = .slice a l c := by
          rcases f7.slice Try.underlying40 with h | ⟨a, l, c, h, _⟩
          · injection h with h; exact ⟨_, _, _, h⟩
          · injection h with h; exact ⟨_, _, _, h⟩
        obtain ⟨a7, l7, c7, rfl⟩ := hsl
        obtain ⟨bs, hbl, hrow, hb9⟩ := reads_u8s f7
        subst hbl
        have q := fun j hj => q2 j hj
        have e : ∀ j, ((a.add (k * 8)).add j) = ⟨a.block, a.off + k * 8 + j, none⟩ := by intro j; rw [ea, add_spot, add_spot]
        simp only [e] at q
        refine ⟨K, r, m, f, A, B, N, _, bs, ?_, q 1 (by simp), q 2 (by simp), q 3 (by simp), q 4 (by simp), q 5 (by simp), q 6 (by simp), q 7 (by simp), hrow, hb9, hfb⟩
        have := q 0 (by simp)
        rw [Nat.add_zero] at this
        exact this

theorem block8 {w : World} {g : Nat} {x0 x1 x2 x3 x4 x5 x6 x7 : Value} {t : TypeId} (h : w.heap[g]? = some (.cells #[x0, x1, x2, x3, x4, x5, x6, x7] t (0, 0))) :
    w.cell? ⟨g, 1, none⟩ = some x1 ∧ w.cell? ⟨g, 2, none⟩ = some x2 ∧ w.cell? ⟨g, 3, none⟩ = some x3 ∧ w.cell? ⟨g, 4, none⟩ = some x4 ∧ w.cell? ⟨g, 5, none⟩ = some x5 ∧ w.cell? ⟨g, 6, none⟩ = some x6 ∧ w.cell? ⟨g, 7, none⟩ = some x7 :=
  ⟨by rw [cell_block h]; rfl, by rw [cell_block h]; rfl, by rw [cell_block h]; rfl, by rw [cell_block h]; rfl, by rw [cell_block h]; rfl, by rw [cell_block h]; rfl, by rw [cell_block h]; rfl⟩

theorem below_alloc (w : World) (o : Obj) : Below w.heap.size w (w.alloc o) := (Below.refl _ _).alloc (Nat.le_refl _) o

/-- What was taken first, behind the second taking. -/
theorem take_first {w0h : Nat} {ws : World} {gm : Nat} {bx : Value} {bz : List UInt8} {csg : Array Value} (ho : ws.ownsRow w0h 5 1 bx bz.length (u8s bz)) (hg : ws.heap[gm]? = some (.cells csg 53 (0, 0))) (hl : bz.length ≤ 61000) (fx tx : Int) {wt : World}
    (hsp : Spares (· = gm) (ws.alloc (.cells #[.int .i64 fx, .int .i64 tx, bx] 45)) wt) : wt.heap[ws.heap.size]? = some (.cells #[.int .i64 fx, .int .i64 tx, bx] 45 (0, 0)) ∧ RowN 1 wt bx bz.length (u8s bz) := by
  have hgl := block_lt hg
  refine ⟨(hsp.block _ (by simp) (by show ¬ _ = gm; omega)).trans (heap_alloc_new ws _), ?_⟩
  refine RowN.of_own (own_spares (own_later ho (below_alloc _ _)) hsp fun k hk e => ?_)
  obtain ⟨_, cur, hc⟩ := own_block ho hk
  exact ne_type hc hg (by decide) e

theorem pread_one {w : World} {g : Nat} {f t : Int} {bv : Value} {bs : List UInt8} {T : TypeId} (h : w.heap[g]? = some (.cells #[.int .i64 f, .int .i64 t, bv] T (0, 0))) (hr : RowN 1 w bv bs.length (u8s bs)) (hl : bs.length ≤ 61000) : PRead w (.slice (some ⟨g, 0, none⟩) 1 1) [(f, t, bv, bs)] := by
  refine ⟨⟨rfl, .inr ⟨g, 0, 1, rfl, by simp, block_lt h, fun j u hj => ?_⟩⟩, fun p hp => ?_, by simp⟩
  · rw [Nat.zero_add, cell_block h]
    have e : ([(f, t, bv, bs)] : List Par).flatMap parC = [.int .i64 f, .int .i64 t, bv] := rfl
    rw [e] at hj
    simpa using hj
  · rw [List.mem_singleton] at hp; subst hp; exact ⟨hr, hl⟩

/-- Both takings, side by side, are the same. -/
theorem same_taken {wt : World} {bx by2 : Value} {bz : List UInt8} (hl : bz.length ≤ 61000) (fx tx : Int) (hx : RowN 1 wt bx bz.length (u8s bz)) (hy : RowN 1 wt by2 bz.length (u8s bz)) {T : TypeId} :
    Calls Try.prog 18 #[.slice (some ⟨wt.heap.size + 1, 0, none⟩) 1 1, .slice (some ⟨wt.heap.size + 2, 0, none⟩) 1 1] (((wt.alloc (.cells #[.int .i64 fx, .int .i64 tx, by2] T)).alloc (.cells #[.int .i64 fx, .int .i64 tx, bx] T)).alloc (.cells #[.int .i64 fx, .int .i64 tx, by2] T))
      fun e w' => e = .returned (.bool true) ∧ Below (((wt.alloc (.cells #[.int .i64 fx, .int .i64 tx, by2] T)).alloc (.cells #[.int .i64 fx, .int .i64 tx, bx] T)).alloc (.cells #[.int .i64 fx, .int .i64 tx, by2] T)).heap.size (((wt.alloc (.cells #[.int .i64 fx, .int .i64 tx, by2] T)).alloc (.cells #[.int .i64 fx, .int .i64 tx, bx] T)).alloc (.cells #[.int .i64 fx, .int .i64 tx, by2] T)) w' := by
  have hb : Below wt.heap.size wt (((wt.alloc (.cells #[.int .i64 fx, .int .i64 tx, by2] T)).alloc (.cells #[.int .i64 fx, .int .i64 tx, bx] T)).alloc (.cells #[.int .i64 fx, .int .i64 tx, by2] T)) := (((Below.refl _ _).alloc (Nat.le_refl _) _).alloc (by simp) _).alloc (by simp; omega) _
  have k1 := alloc2_first (wt.alloc (.cells #[.int .i64 fx, .int .i64 tx, by2] T)) (.cells #[.int .i64 fx, .int .i64 tx, bx] T) (.cells #[.int .i64 fx, .int .i64 tx, by2] T)
  have k2 := alloc2_second (wt.alloc (.cells #[.int .i64 fx, .int .i64 tx, by2] T)) (.cells #[.int .i64 fx, .int .i64 tx, bx] T) (.cells #[.int .i64 fx, .int .i64 tx, by2] T)
  rw [World.size_alloc] at k1 k2
  exact refSame_yes (pread_one k1 (hx.later hb) hl) (pread_one k2 (hy.later hb) hl) rfl
end Go.Proofs.Ytlhmfdklpjpnlaa
