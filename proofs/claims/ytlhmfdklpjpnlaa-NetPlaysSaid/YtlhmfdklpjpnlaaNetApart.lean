/- The walk of net.Apart. -/
import Derived.Test.YtlhmfdklpjpnlaaNet
import Derived.StillTailTactics
import Derived.Outline
import Derived.IntWalk
namespace Go.Proofs.Ytlhmfdklpjpnlaa
open Go.RowKit Punnet.Flt
set_option linter.unusedVariables false

/-- On which side a replica is. -/
def sideAt (ps : List (Int × Int)) (x y off a : Int) : Int := sideOf ((ps.getD (a - 1).toNat (0, 0)).1 * x + (ps.getD (a - 1).toNat (0, 0)).2 * y) off
/-- Are they apart? -/
def apartB (ps : List (Int × Int)) (cut : Bool) (x y off a b : Int) : Bool := cut && repB ps a && repB ps b && (sideAt ps x y off a != sideAt ps x y off b)

theorem apart_nil (a b : Int) (w : World) : Calls Try.prog 10 #[.pointer none, .int .i64 a, .int .i64 b] w fun e w' => e = .returned (.bool false) ∧ w = w' := by
  go_enter Try.func10, Try.ntmps10
  go_wp2_with fail
  go_ret
  exact ⟨rfl, rfl⟩

theorem side_point {ps : List (Int × Int)} (hs : ∀ p ∈ ps, smallB p.1 p.2 = true) {x y : Int} (hxy : smallB x y = true) (off : Int) {k : Nat} (hk : k < ps.length) (w : World) :
    Calls Try.prog 27 #[.complex .f64 (fl x) (fl y), .int .i64 off, cpx ps[k]] w fun e w' => e = .returned (.tuple #[.int .i64 (sideOf (ps[k].1 * x + ps[k].2 * y) off), .int .i64 0]) ∧ Below w.heap.size w w' := by
  obtain ⟨h1, h2, h3, h4⟩ := smallB_true.1 hxy
  obtain ⟨h5, h6, h7, h8⟩ := smallB_true.1 (hs _ (List.getElem_mem hk))
  exact side_yes (isAt_fl x (M := 33554432) h1 h2 (by omega)) (isAt_fl y (M := 33554432) h3 h4 (by omega)) (isAt_fl _ (M := 33554432) h5 h6 (by omega)) (isAt_fl _ (M := 33554432) h7 h8 (by omega)) off w

set_option maxHeartbeats 2000000 in
theorem apart_any {w : World} {base g : Nat} {ps : List (Int × Int)} {pa : Value} {cut : Bool} {x y off : Int} (hn : NetAt w base g ps pa cut x y off) (a b : Int) :
    Calls Try.prog 10 #[.pointer (some ⟨g, 0, none⟩), .int .i64 a, .int .i64 b] w fun e w' => e = .returned (.bool (apartB ps cut x y off a b)) ∧ Below w.heap.size w w' := by
  have R1 := Lib.hid (replica_any hn a)
  have R2 := Lib.hid (replica_any hn b)
  obtain ⟨h1, ⟨v, h2, h3⟩, h4, h5, h6, h7⟩ := hn
  have c2 : w.cell? ⟨g, 2, none⟩ = some (.bool cut) := by rw [cell_block h2]; rfl
  have c3 : w.cell? ⟨g, 3, none⟩ = some (.complex .f64 (fl x) (fl y)) := by rw [cell_block h2]; rfl
  have c4 : w.cell? ⟨g, 4, none⟩ = some (.int .i64 off) := by rw [cell_block h2]; rfl
  have c0 : w.cell? ⟨g, 0, none⟩ = some v := by rw [cell_block h2]; rfl
  have hgl := block_lt h2
  cases cut with
  | false =>
    clear c3 c4 c0 h2 h3
    go_enter Try.func10, Try.ntmps10
    go_wp2_with fail
    go_ret
    exact ⟨rfl, Below.refl _ _⟩
  | true =>
    cases ha : repB ps a with
    | false =>
      rw [ha] at R1
      have HV := Lib.hid (show apartB ps true x y off a b = false by unfold apartB; rw [ha]; rfl)
      clear c3 c4 c0 h2 h3 ha
      go_enter Try.func10, Try.ntmps10
      go_wp2_with fail
      refine R1.out.mono ?_
      rintro e w1 ⟨rfl, rfl⟩
      go_wp2_with fail
      go_ret
      exact ⟨ret_bool HV.out.symm, Below.refl _ _⟩
    | true =>
      cases hb : repB ps b with
      | false =>
        rw [ha] at R1
        rw [hb] at R2
        have HV := Lib.hid (show apartB ps true x y off a b = false by unfold apartB; rw [ha, hb]; rfl)
        clear c3 c4 c0 h2 h3 ha hb
        go_enter Try.func10, Try.ntmps10
        go_wp2_with fail
        refine R1.out.mono ?_
        rintro e w1 ⟨rfl, rfl⟩
        go_wp2_with fail
        refine R2.out.mono ?_
        rintro e w1 ⟨rfl, rfl⟩
        go_wp2_with fail
        go_ret
        exact ⟨ret_bool HV.out.symm, Below.refl _ _⟩
      | true =>
        have ea := of_decide_eq_true ha
        have eb := of_decide_eq_true hb
        rw [ha] at R1
        rw [hb] at R2
        obtain ⟨i, rfl⟩ : ∃ i : Nat, a = (i : Int) + 1 := ⟨(a - 1).toNat, by omega⟩
        obtain ⟨j, rfl⟩ : ∃ j : Nat, b = (j : Int) + 1 := ⟨(b - 1).toNat, by omega⟩
        have hi : i < ps.length := by omega
        have hj : j < ps.length := by omega
        have HV := Lib.hid (show apartB ps true x y off ((i : Int) + 1) ((j : Int) + 1) = (sideOf (ps[i].1 * x + ps[i].2 * y) off != sideOf (ps[j].1 * x + ps[j].2 * y) off) by
          unfold apartB sideAt
          rw [ha, hb, show ((i : Int) + 1 - 1).toNat = i by omega, show ((j : Int) + 1 - 1).toNat = j by omega, List.getD_eq_getElem?_getD, List.getD_eq_getElem?_getD, List.getElem?_eq_getElem hi, List.getElem?_eq_getElem hj]
          rfl)
        have S1 := Lib.hid (side_point h5 h6 off hi)
        have S2 := Lib.hid (side_point h5 h6 off hj)
        generalize sideOf (ps[i].1 * x + ps[i].2 * y) off = s1 at *
        generalize sideOf (ps[j].1 * x + ps[j].2 * y) off = s2 at *
        rcases RowAt.of_own h3 with ⟨hx, _⟩ | ⟨bb, o, cap, rfl, h0, hbl, hc⟩
        · rw [List.map_eq_nil_iff] at hx; subst hx; exact absurd hi (by simp)
        rw [List.length_map] at *
        have ci := hc i (by simpa using hi)
        have cj := hc j (by simpa using hj)
        rw [List.getElem_map] at ci cj
        unfold cpx at ci cj S1 S2
        generalize fl ps[i].1 = xi at *
        generalize fl ps[i].2 = yi at *
        generalize fl ps[j].1 = xj at *
        generalize fl ps[j].2 = yj at *
        generalize fl x = fx at *
        generalize fl y = fy at *
        have hi' : (i : Int) < (ps.length : Int) := by omega
        have hj' : (j : Int) < (ps.length : Int) := by omega
        have ii : (i : Int) + 1 - 1 = i := by omega
        have jj : (j : Int) + 1 - 1 = j := by omega
        have wi : IntKind.i64.wrap (i : Int) = i := IntWalk.i64_in _ (by omega)
        have wj : IntKind.i64.wrap (j : Int) = j := IntWalk.i64_in _ (by omega)
        have i0 : (0 : Int) ≤ i := by omega
        have j0 : (0 : Int) ≤ j := by omega
        clear h2 h3 hc ha hb ea eb h5
        go_enter Try.func10, Try.ntmps10
        go_wp2_with fail
        refine R1.out.mono ?_
        rintro e w1 ⟨rfl, rfl⟩
        go_wp2_with fail
        refine R2.out.mono ?_
        rintro e w1 ⟨rfl, rfl⟩
        go_wp2_with fail
        go_region_held3 (fun w' => w'.cell? ⟨g, 3, none⟩ = some (.complex .f64 fx fy) ∧ w'.cell? ⟨g, 4, none⟩ = some (.int .i64 off) ∧ w'.cell? ⟨g, 0, none⟩ = some (.slice (some ⟨bb, o, none⟩) ps.length cap) ∧ w'.cell? ⟨bb, o + i, none⟩ = some (.complex .f64 xi yi))
          (first
            | go_keep
            | (refine ⟨?_, ?_, ?_, ?_⟩ <;> (rw [hbs.cell (by simp; omega)]; assumption)))
          (first | (go_at_call 27; refine (S1.out _).mono ?_; rintro e ws ⟨rfl, hbs⟩))
        have d3 : ws.cell? ⟨g, 3, none⟩ = some (.complex .f64 fx fy) := (hbs.cell (p := ⟨g, 3, none⟩) (by simpa using hgl)).trans c3
        have d4 : ws.cell? ⟨g, 4, none⟩ = some (.int .i64 off) := (hbs.cell (p := ⟨g, 4, none⟩) (by simpa using hgl)).trans c4
        have d0 : ws.cell? ⟨g, 0, none⟩ = some (.slice (some ⟨bb, o, none⟩) ps.length cap) := (hbs.cell (p := ⟨g, 0, none⟩) (by simpa using hgl)).trans c0
        have dj : ws.cell? ⟨bb, o + j, none⟩ = some (.complex .f64 xj yj) := (hbs.cell (p := ⟨bb, o + j, none⟩) (by simpa using hbl)).trans cj
        have hbw : Below w.heap.size w ws := ⟨hbs.os, hbs.tape, hbs.output, hbs.size, hbs.block⟩
        clear c0 c2 c3 c4 ci cj hbs
        go_wp2_with fail
        go_region_held3 (fun w' => w'.cell? ⟨g, 3, none⟩ = some (.complex .f64 fx fy) ∧ w'.cell? ⟨g, 4, none⟩ = some (.int .i64 off) ∧ w'.cell? ⟨g, 0, none⟩ = some (.slice (some ⟨bb, o, none⟩) ps.length cap) ∧ w'.cell? ⟨bb, o + j, none⟩ = some (.complex .f64 xj yj))
          (first
            | go_keep
            | (refine ⟨?_, ?_, ?_, ?_⟩ <;> (rw [hbt.cell (by simp; have := hbw.size; omega)]; assumption)))
          (first | (go_at_call 27; refine (S2.out _).mono ?_; rintro e wt ⟨rfl, hbt⟩))
        have hbw2 : Below w.heap.size w wt := hbw.trans ((⟨hbt.os, hbt.tape, hbt.output, hbt.size, hbt.block⟩ : Below ws.heap.size ws wt).mono hbw.size)
        clear d0 d3 d4 dj hbt
        go_wp2_with fail
        go_ret
        exact ⟨ret_bool HV.out.symm, hbw2⟩
end Go.Proofs.Ytlhmfdklpjpnlaa
