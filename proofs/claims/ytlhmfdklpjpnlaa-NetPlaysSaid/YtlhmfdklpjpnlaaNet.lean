/- The walks of net.small, Cut, replica and Apart. -/
import Derived.Test.YtlhmfdklpjpnlaaPlaneSide
import Derived.Test.YtlhmfdklpjpnlaaHeap
import Derived.Deep.QuietTactic
import Derived.BigQuiet
import Derived.Deep.RegionHeld3
namespace Go.Proofs.Ytlhmfdklpjpnlaa
open Go.RowKit Punnet.Flt
set_option linter.unusedVariables false

theorem store_complex (P : Program) (w : World) (a : Addr) (m : Mode) (k : FloatKind) (b c : Nat) : (store a (.complex k b c) m).run P w = stored P w a (.complex k b c) m := run_store P w a _ m rfl
attribute [local go_sem] store_complex

/-- Is a number small, by its parts? -/
def smallB (n m : Int) : Bool := decide (-33554432 ≤ n ∧ n ≤ 33554432 ∧ -33554432 ≤ m ∧ m ≤ 33554432)
theorem smallB_true {n m : Int} : smallB n m = true ↔ (-33554432 ≤ n ∧ n ≤ 33554432 ∧ -33554432 ≤ m ∧ m ≤ 33554432) := by unfold smallB; simp
/-- The number of these parts. -/
def fl (n : Int) : Nat := floatOfInt .f64 n
def cpx (p : Int × Int) : Value := .complex .f64 (fl p.1) (fl p.2)

theorem netSmall_yes {n m : Int} (h : smallB n m = true) (w : World) :
    Calls Try.prog 25 #[.int .i64 n, .int .i64 m] w fun e w' => e = .returned (.tuple #[.complex .f64 (fl n) (fl m), .bool true]) ∧ Below w.heap.size w w' := by
  obtain ⟨h1, h2, h3, h4⟩ := smallB_true.1 h
  have O := Lib.hid (fun w => of_yes (n := n) (m := m) (by omega) (by omega) (by omega) (by omega) w)
  have SM := Lib.hid (small_any (floatOfInt .f64 n) (floatOfInt .f64 m))
  rw [both_ok (isAt_fl n (M := 33554432) h1 h2 (by omega)) (isAt_fl m (M := 33554432) h3 h4 (by omega))] at SM
  unfold fl
  clear h
  generalize floatOfInt .f64 n = x at *
  generalize floatOfInt .f64 m = y at *
  go_enter Try.func25, Try.ntmps25
  go_wp2_with fail
  refine (O.out _).mono ?_
  rintro e w1 ⟨rfl, rfl⟩
  go_wp2_with fail
  refine (SM.out _).mono ?_
  rintro e w2 ⟨rfl, hb2⟩
  go_wp2_with fail
  go_ret2
  exact ⟨rfl, hb2⟩

/-- No small number. -/
def NotSmall (w : World) (e : Ending) (w' : World) : Prop := (∃ x y : Nat, e = .returned (.tuple #[.complex .f64 x y, .bool false])) ∧ Below w.heap.size w w'
theorem netSmall_no {n m : Int} (h : smallB n m = false) (w : World) : Calls Try.prog 25 #[.int .i64 n, .int .i64 m] w (NotSmall w) := by
  by_cases hf : -4503599627370496 ≤ n ∧ n ≤ 4503599627370496 ∧ -4503599627370496 ≤ m ∧ m ≤ 4503599627370496
  · obtain ⟨h1, h2, h3, h4⟩ := hf
    have O := Lib.hid (fun w => of_yes (n := n) (m := m) h1 h2 h3 h4 w)
    have SM := Lib.hid (small_any (floatOfInt .f64 n) (floatOfInt .f64 m))
    have hno : (okB (floatOfInt .f64 n) 33554432 && okB (floatOfInt .f64 m) 33554432) = false := by
      rw [Bool.eq_false_iff]
      intro hc
      rw [Bool.and_eq_true] at hc
      obtain ⟨c1, c2⟩ := hc
      obtain ⟨n', e1, b1, b2⟩ := okB_iff.1 c1
      obtain ⟨m', e2, b3, b4⟩ := okB_iff.1 c2
      have i1 := (isAt_fl n (M := 4503599627370496) h1 h2 (by omega)).1
      have i2 := (isAt_fl m (M := 4503599627370496) h3 h4 (by omega)).1
      rw [e1] at i1; injection i1 with i1
      rw [e2] at i2; injection i2 with i2
      have := smallB_true.2 (⟨by omega, by omega, by omega, by omega⟩ : -33554432 ≤ n ∧ n ≤ 33554432 ∧ -33554432 ≤ m ∧ m ≤ 33554432)
      rw [h] at this; cases this
    rw [hno] at SM
    clear h hno
    generalize floatOfInt .f64 n = x at *
    generalize floatOfInt .f64 m = y at *
    go_enter Try.func25, Try.ntmps25
    go_wp2_with fail
    refine (O.out _).mono ?_
    rintro e w1 ⟨rfl, rfl⟩
    go_wp2_with fail
    refine (SM.out _).mono ?_
    rintro e w2 ⟨rfl, hb2⟩
    go_wp2_with fail
    go_ret2
    exact ⟨⟨x, y, rfl⟩, hb2⟩
  · have O := Lib.hid (fun w => of_no (n := n) (m := m) hf w)
    clear hf h
    go_enter Try.func25, Try.ntmps25
    go_wp2_with fail
    refine (O.out _).mono ?_
    rintro e w1 ⟨rfl, rfl⟩
    go_wp2_with fail
    go_ret2
    exact ⟨⟨0, 0, rfl⟩, Below.refl _ _⟩

/-- A net in memory: at block g, its places, its parcels' slice, its line. -/
def NetAt (w : World) (base g : Nat) (ps : List (Int × Int)) (pa : Value) (cut : Bool) (x y off : Int) : Prop :=
  base ≤ g ∧ (∃ v, w.heap[g]? = some (.cells #[v, pa, .bool cut, .complex .f64 (fl x) (fl y), .int .i64 off] 57 (0, 0)) ∧ w.ownsRow base 39 1 v ps.length (ps.map cpx)) ∧ ps.length ≤ 6 ∧ (∀ p ∈ ps, smallB p.1 p.2 = true) ∧ smallB x y = true ∧ (-9223372036854775808 ≤ off ∧ off ≤ 9223372036854775807)

theorem NetAt.later {w w' : World} {base g : Nat} {ps : List (Int × Int)} {pa : Value} {cut : Bool} {x y off : Int} (h : NetAt w base g ps pa cut x y off) (hb : Below w.heap.size w w') : NetAt w' base g ps pa cut x y off := by
  obtain ⟨h1, ⟨v, h2, h3⟩, h4⟩ := h
  exact ⟨h1, ⟨v, (hb.block g (block_lt h2)).trans h2, own_later h3 hb⟩, h4⟩
/-- Another net's line is laid: this one is as it was. -/
theorem NetAt.spares {w w' : World} {base g g' : Nat} {ps : List (Int × Int)} {pa : Value} {cut : Bool} {x y off : Int} (h : NetAt w base g ps pa cut x y off) (hb : Spares (· = g') w w') (hne : g ≠ g') (hg : ∃ cs, w.heap[g']? = some (.cells cs 57 (0, 0))) : NetAt w' base g ps pa cut x y off := by
  obtain ⟨h1, ⟨v, h2, h3⟩, h4⟩ := h
  refine ⟨h1, ⟨v, (hb.block g (block_lt h2) hne).trans h2, own_spares h3 hb fun k hk e => ?_⟩, h4⟩
  obtain ⟨_, cur, hc⟩ := own_block h3 hk
  obtain ⟨cs, hg⟩ := hg
  rw [e] at hc
  rw [hc] at hg
  injection hg with hg; injection hg with _ hg _; exact absurd hg (by decide)
theorem NetAt.blk {w : World} {base g : Nat} {ps : List (Int × Int)} {pa : Value} {cut : Bool} {x y off : Int} (h : NetAt w base g ps pa cut x y off) : ∃ cs, w.heap[g]? = some (.cells cs 57 (0, 0)) := by
  obtain ⟨h1, ⟨v, h2, h3⟩, h4⟩ := h; exact ⟨_, h2⟩

theorem cut_nil (a b c : Int) (w : World) : Calls Try.prog 9 #[.pointer none, .int .i64 a, .int .i64 b, .int .i64 c] w fun e w' => e = .returned (.int .i64 1) ∧ w = w' := by
  go_enter Try.func9, Try.ntmps9
  go_wp2_with fail
  go_ret
  exact ⟨rfl, rfl⟩

theorem cut_no {a b : Int} (h : smallB a b = false) (g : Nat) (c : Int) (w : World) : Calls Try.prog 9 #[.pointer (some ⟨g, 0, none⟩), .int .i64 a, .int .i64 b, .int .i64 c] w fun e w' => e = .returned (.int .i64 5) ∧ Below w.heap.size w w' := by
  go_enter Try.func9, Try.ntmps9
  go_wp2_with fail
  refine (netSmall_no h _).mono ?_
  rintro e w1 ⟨⟨x, y, rfl⟩, hb1⟩
  go_wp2_with fail
  go_ret
  exact ⟨rfl, hb1⟩

/-- A line is laid. -/
def CutPost (w : World) (base g : Nat) (ps : List (Int × Int)) (pa : Value) (x y off : Int) (e : Ending) (w' : World) : Prop :=
  e = .returned (.int .i64 0) ∧ NetAt w' base g ps pa true x y off ∧ Spares (· = g) w w'
set_option maxHeartbeats 1000000 in
theorem cut_yes {a b : Int} (h : smallB a b = true) {w : World} {base g : Nat} {ps : List (Int × Int)} {pa : Value} {cut : Bool} {x y off : Int} (hn : NetAt w base g ps pa cut x y off) (c : Int) (hc : -9223372036854775808 ≤ c ∧ c ≤ 9223372036854775807) :
    Calls Try.prog 9 #[.pointer (some ⟨g, 0, none⟩), .int .i64 a, .int .i64 b, .int .i64 c] w (CutPost w base g ps pa a b c) := by
  have HN := Lib.hid hn
  clear hn
  have HS := Lib.hid h
  go_enter Try.func9, Try.ntmps9
  go_wp2_with fail
  refine (netSmall_yes h _).mono ?_
  clear h
  rintro e w1 ⟨rfl, hb1⟩
  obtain ⟨h1, ⟨v, h2, h3⟩, h4⟩ := HN.out.later hb1
  have H2 := Lib.hid h2
  have H3 := Lib.hid h3
  have H4 := Lib.hid h4
  have c2 : w1.cell? ⟨g, 2, none⟩ = some (.bool cut) := by rw [cell_block h2]; rfl
  have c3 : w1.cell? ⟨g, 3, none⟩ = some (.complex .f64 (fl x) (fl y)) := by rw [cell_block h2]; rfl
  have c4 : w1.cell? ⟨g, 4, none⟩ = some (.int .i64 off) := by rw [cell_block h2]; rfl
  have f2 : w1.frozen? ⟨g, 2, none⟩ = false := free_block h2
  have f3 : w1.frozen? ⟨g, 3, none⟩ = false := free_block h2
  have f4 : w1.frozen? ⟨g, 4, none⟩ = false := free_block h2
  clear h2 h3 h4
  go_wp2_with fail
  go_ret
  refine ⟨rfl, ⟨h1, ⟨v, ?_, ?_⟩, H4.out.1, H4.out.2.1, HS.out, hc⟩, ?_⟩
  · rw [block_setCell (block_setCell (block_setCell H2.out))]; rfl
  · refine own_spares H3.out (S := (· = g)) (((Spares.refl (· = g) w1).set1.set1).set1) fun k hk e => ?_
    obtain ⟨_, cur, hcur⟩ := own_block H3.out hk
    rw [e, H2.out] at hcur
    injection hcur with hcur; injection hcur with _ hcur _; exact absurd hcur (by decide)
  · exact (hb1.spares _).trans (((Spares.refl (· = g) w1).set1.set1).set1)

/-- Is it a replica's number? -/
def repB (ps : List (Int × Int)) (a : Int) : Bool := decide (1 ≤ a ∧ a ≤ ps.length)
theorem replica_any {w : World} {base g : Nat} {ps : List (Int × Int)} {pa : Value} {cut : Bool} {x y off : Int} (hn : NetAt w base g ps pa cut x y off) (a : Int) :
    Calls Try.prog 26 #[.pointer (some ⟨g, 0, none⟩), .int .i64 a] w fun e w' => e = .returned (.bool (repB ps a)) ∧ w = w' := by
  obtain ⟨h1, ⟨v, h2, h3⟩, h4, _⟩ := hn
  obtain ⟨aa, cap, rfl⟩ := (RowAt.of_own h3).len
  have c0 : w.cell? ⟨g, 0, none⟩ = some (.slice aa (ps.map cpx).length cap) := by rw [cell_block h2]; rfl
  rw [List.length_map] at c0
  clear h2 h3
  by_cases ha : 1 ≤ a
  · by_cases hl : a ≤ (ps.length : Int)
    · have HV := Lib.hid (show repB ps a = true by unfold repB; simp; omega)
      go_enter Try.func26, Try.ntmps26
      go_wp2_with fail
      go_ret
      exact ⟨ret_bool HV.out.symm, rfl⟩
    · have HV := Lib.hid (show repB ps a = false by unfold repB; simp; omega)
      go_enter Try.func26, Try.ntmps26
      go_wp2_with fail
      go_ret
      exact ⟨ret_bool HV.out.symm, rfl⟩
  · have HV := Lib.hid (show repB ps a = false by unfold repB; simp; omega)
    go_enter Try.func26, Try.ntmps26
    go_wp2_with fail
    go_ret
    exact ⟨ret_bool HV.out.symm, rfl⟩
end Go.Proofs.Ytlhmfdklpjpnlaa
