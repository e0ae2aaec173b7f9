/- The walks of plane.parts, plane.within, Whole, Small, Parts, Of; of the reference's part, Parts. -/
import Derived.Test.YtlhmfdklpjpnlaaKit
import Derived.Test.YtlhmfdklpjpnlaaFloat
import Derived.Laws.Externs
import Derived.Laws.FloatArith
namespace Go.Proofs.Ytlhmfdklpjpnlaa
open Go.RowKit Punnet.Flt
set_option linter.unusedVariables false

theorem fmt64 : FloatKind.f64.format = Ieee.double := rfl

theorem decode64 (x : Nat) : FloatKind.f64.decode x = Ieee.double.read x := rfl

section
attribute [local irreducible] FloatKind.decode
/-- The library's cut towards 0, of a float that is a number. -/
theorem call_archTrunc (x : Nat) (u : Int) (hu : unitOf x = some u) (w : World) :
    (callFunc 45 #[.float .f64 x]).run Try.prog w = .ok (.value (.float .f64 (Ieee.double.write ((Ieee.double.read x).integral .zero)))) w := by
  rw [run_callFunc_extern (P := Try.prog) (f := 45) (fn := Try.f45) (e := Extern.MathFloor.toIntegral "math.archTrunc" .zero) (by kernel_rfl) (by kernel_rfl) (by kernel_rfl) (by kernel_rfl) (by kernel_rfl)]
  obtain ⟨s, m, e, hr, _, _⟩ := number_of_unit hu
  have h : (Extern.MathFloor.toIntegral "math.archTrunc" .zero #[.float .f64 x]).run Try.prog w = .ok (.float .f64 (Ieee.double.write ((Ieee.double.read x).integral .zero))) w := by
    have hd : FloatKind.f64.decode x = .number s m e := (decode64 x).trans hr
    conv => lhs; arg 2; whnf
    rw [hd, hr]
    rfl
  rw [h]; rfl
end

set_option maxHeartbeats 400000 in
theorem trunc_any (x : Nat) (u : Int) (hu : unitOf x = some u) (w : World) :
    Calls Try.prog 44 #[.float .f64 x] w fun e w' => e = .returned (.float .f64 (Ieee.double.write ((Ieee.double.read x).integral .zero))) ∧ w = w' := by
  have hc := call_archTrunc x u hu
  clear hu
  generalize Ieee.double.write ((Ieee.double.read x).integral .zero) = t at *
  go_enter Try.func44, Try.ntmps44
  go_wp2
  go_ret
  exact ⟨rfl, rfl⟩

theorem store_float (P : Program) (w : World) (a : Addr) (m : Mode) (k : FloatKind) (b : Nat) : (store a (.float k b) m).run P w = stored P w a (.float k b) m := run_store P w a _ m rfl
attribute [local go_sem] store_float

set_option maxHeartbeats 400000 in
theorem parts_any (a b : Nat) (w : World) :
    Calls Try.prog 43 #[.complex .f64 a b] w fun e w' => e = .returned (.agg #[.float .f64 a, .float .f64 b]) ∧ Below w.heap.size w w' := by
  go_enter Try.func43, Try.ntmps43
  go_wp2
  exact bodyPost_ret (v := .agg #[.float .f64 a, .float .f64 b]) (by simp [results, Try.results43, go_sem]) rfl ⟨rfl, (Below.refl _ _).alloc (Nat.le_refl _) _⟩

/-- Is a float a whole number, no more than M away from 0? -/
def okB (x : Nat) (M : Int) : Bool := match wholeOf x with
  | some n => decide (-M ≤ n ∧ n ≤ M)
  | none => false

theorem okB_units {x : Nat} {u M : Int} (hu : unitOf x = some u) (hM : M ≤ 4503599627370496) : okB x M = decide (-M * K ≤ u ∧ u ≤ M * K ∧ u.tdiv K * K = u) := by
  have hk := K_pos
  unfold okB
  cases hw : wholeOf x with
  | some n =>
    obtain ⟨h1, h2, h3⟩ := wholeOf_some.1 hw
    rw [hu] at h1
    injection h1 with h1
    subst h1
    simp only [tdiv_mul, and_true, mul_le]
  | none =>
    symm
    rw [decide_eq_false_iff_not]
    rintro ⟨h1, h2, h3⟩
    rw [← h3] at h1 h2
    rw [mul_le] at h1 h2
    have : wholeOf x = some (u.tdiv K) := wholeOf_some.2 ⟨by rw [hu, h3], by omega, by omega⟩
    rw [hw] at this
    cases this
theorem okB_none {x : Nat} {M : Int} (hu : unitOf x = none) : okB x M = false := by
  unfold okB wholeOf; rw [hu]

set_option maxHeartbeats 800000 in
theorem within_any (a b mb : Nat) (M : Int) (w : World) (hm : unitOf mb = some (M * K)) (hn : unitOf (Op.negFloat .f64 mb) = some (-M * K)) (hM : M ≤ 4503599627370496) :
    Calls Try.prog 41 #[.complex .f64 a b, .float .f64 mb] w fun e w' => e = .returned (.bool (okB a M && okB b M)) ∧ Below w.heap.size w w' := by
  have i0 : ∀ w, (Instr.index 77 (.agg #[.float .f64 a, .float .f64 b]) (.int .i64 0)).run Try.prog w = .ok (.float .f64 a) w := fun _ => by kernel_rfl
  have i1 : ∀ w, (Instr.index 77 (.agg #[.float .f64 a, .float .f64 b]) (.int .i64 1)).run Try.prog w = .ok (.float .f64 b) w := fun _ => by kernel_rfl
  have hneg : ∀ w, (Op.unary .neg (.float .f64 mb)).run Try.prog w = .ok (.float .f64 (Op.negFloat .f64 mb)) w := fun _ => rfl
  generalize Op.negFloat .f64 mb = nm at *
  have key : ∀ x, (geB x nm = false ∧ okB x M = false) ∨ (geB x nm = true ∧ leB x mb = false ∧ okB x M = false) ∨ (geB x nm = true ∧ leB x mb = true ∧ ∃ u, unitOf x = some u ∧ -4503599627370496 * K ≤ u ∧ u ≤ 4503599627370496 * K ∧ okB x M = decide (u.tdiv K * K = u)) := by
    intro x
    cases hx : unitOf x with
    | none =>
      have hf := not_within hx hn hm
      have ho := okB_none (M := M) hx
      cases hg : geB x nm with
      | false => exact .inl ⟨rfl, ho⟩
      | true => rw [hg, Bool.true_and] at hf; exact .inr (.inl ⟨rfl, hf, ho⟩)
    | some u =>
      have ho := okB_units hx hM
      have h1 := geB_units hx hn
      have h2 := leB_units hx hm
      by_cases c1 : -M * K ≤ u
      · by_cases c2 : u ≤ M * K
        · have c3 : -4503599627370496 * K ≤ u := Int.le_trans ((mul_le _ _).2 (by omega)) c1
          have c4 : u ≤ 4503599627370496 * K := Int.le_trans c2 ((mul_le _ _).2 hM)
          refine .inr (.inr ⟨by rw [h1, decide_eq_true c1], by rw [h2, decide_eq_true c2], u, rfl, c3, c4, ?_⟩)
          rw [ho, decide_eq_decide]
          exact ⟨fun h => h.2.2, fun h => ⟨c1, c2, h⟩⟩
        · refine .inr (.inl ⟨by rw [h1, decide_eq_true c1], by rw [h2, decide_eq_false c2], ?_⟩)
          rw [ho, decide_eq_false]
          exact fun h => c2 h.2.1
      · refine .inl ⟨by rw [h1, decide_eq_false c1], ?_⟩
        rw [ho, decide_eq_false]
        exact fun h => c1 h.1
  have tr : ∀ x u, unitOf x = some u → -4503599627370496 * K ≤ u → u ≤ 4503599627370496 * K → eqB (Ieee.double.write ((Ieee.double.read x).integral .zero)) x = decide (u.tdiv K * K = u) := by
    intro x u hx c3 c4
    exact eqB_units (trunc_units hx c3 c4) hx
  have ords : ∀ x y, ∃ o, FloatKind.f64.format.order x y = o ∧ geB x y = (o == some .gt || o == some .eq) ∧ leB x y = (o == some .lt || o == some .eq) ∧ eqB x y = (o == some .eq) := fun x y => ⟨_, rfl, rfl, rfl, rfl⟩
  obtain ⟨oa, ea, ga, _, _⟩ := ords a nm
  obtain ⟨pa, fa, _, la, _⟩ := ords a mb
  obtain ⟨ob, eb, gb, _, _⟩ := ords b nm
  obtain ⟨pb, fb, _, lb, _⟩ := ords b mb
  rcases key a with ⟨g1, o1⟩ | ⟨g1, g2, o1⟩ | ⟨g1, g2, u, hu, c3, c4, o1⟩
  · have HV := Lib.hid (show (okB a M && okB b M) = false by rw [o1]; rfl)
    rw [ga] at g1
    clear hm hn hM o1 key tr ords ga la gb lb
    go_enter Try.func41, Try.ntmps41
    go_wp2_with (go_at_call 43; refine (parts_any _ _ _).mono ?_; rintro e w1 ⟨rfl, hb1⟩)
    refine wp_loop_rounds 1 ?_
    rw [rounds_succ]
    go_wp2
    go_ret
    exact ⟨ret_bool HV.out.symm, hb1⟩
  · have HV := Lib.hid (show (okB a M && okB b M) = false by rw [o1]; rfl)
    rw [ga] at g1
    rw [la] at g2
    clear hm hn hM o1 key tr ords ga la gb lb
    go_enter Try.func41, Try.ntmps41
    go_wp2_with (go_at_call 43; refine (parts_any _ _ _).mono ?_; rintro e w1 ⟨rfl, hb1⟩)
    refine wp_loop_rounds 1 ?_
    rw [rounds_succ]
    go_wp2
    go_ret
    exact ⟨ret_bool HV.out.symm, hb1⟩
  · have HT := Lib.hid (trunc_any a u hu)
    have ht := tr a u hu c3 c4
    rw [← o1] at ht
    generalize Ieee.double.write ((Ieee.double.read a).integral .zero) = ta at *
    obtain ⟨ot, et, _, _, ht2⟩ := ords ta a
    rw [ht2] at ht
    rw [ga] at g1
    rw [la] at g2
    clear hm hn hM o1 hu c3 c4 ht2
    cases ho : okB a M with
    | false =>
      rw [ho] at ht
      have HV := Lib.hid (show (false && okB b M) = false from rfl)
      have ht' : (ot != some .eq) = true := by rw [bne, ht]; rfl
      clear key tr ho ords ga la gb lb
      go_enter Try.func41, Try.ntmps41
      go_wp2_with (go_at_call 43; refine (parts_any _ _ _).mono ?_; rintro e w1 ⟨rfl, hb1⟩)
      refine wp_loop_rounds 1 ?_
      rw [rounds_succ]
      go_wp2_with (go_at_call 44; refine (HT.out _).mono ?_; rintro e w2 ⟨rfl, rfl⟩)
      go_ret
      exact ⟨ret_bool HV.out.symm, hb1⟩
    | true =>
      rw [ho] at ht
      have ht' : (ot != some .eq) = false := by rw [bne, ht]; rfl
      rcases key b with ⟨k1, o1⟩ | ⟨k1, k2, o1⟩ | ⟨k1, k2, v, hv, c3, c4, o1⟩
      · have HV := Lib.hid (show (true && okB b M) = false by rw [o1]; rfl)
        rw [gb] at k1
        clear key tr ho o1 ords ga la gb lb
        go_enter Try.func41, Try.ntmps41
        go_wp2_with (go_at_call 43; refine (parts_any _ _ _).mono ?_; rintro e w1 ⟨rfl, hb1⟩)
        refine wp_loop_rounds 2 ?_
        rw [rounds_succ]
        go_wp2_with (go_at_call 44; refine (HT.out _).mono ?_; rintro e w2 ⟨rfl, rfl⟩)
        rw [rounds_succ]
        go_wp2
        go_ret
        exact ⟨ret_bool HV.out.symm, hb1⟩
      · have HV := Lib.hid (show (true && okB b M) = false by rw [o1]; rfl)
        rw [gb] at k1
        rw [lb] at k2
        clear key tr ho o1 ords ga la gb lb
        go_enter Try.func41, Try.ntmps41
        go_wp2_with (go_at_call 43; refine (parts_any _ _ _).mono ?_; rintro e w1 ⟨rfl, hb1⟩)
        refine wp_loop_rounds 2 ?_
        rw [rounds_succ]
        go_wp2_with (go_at_call 44; refine (HT.out _).mono ?_; rintro e w2 ⟨rfl, rfl⟩)
        rw [rounds_succ]
        go_wp2
        go_ret
        exact ⟨ret_bool HV.out.symm, hb1⟩
      · have HT2 := Lib.hid (trunc_any b v hv)
        have hs := tr b v hv c3 c4
        rw [← o1] at hs
        generalize Ieee.double.write ((Ieee.double.read b).integral .zero) = tb at *
        obtain ⟨os, es, _, _, hs2⟩ := ords tb b
        rw [hs2] at hs
        rw [gb] at k1
        rw [lb] at k2
        clear key tr ho o1 ords ga la gb lb hs2 hv c3 c4
        cases hob : okB b M with
        | false =>
          rw [hob] at hs
          have hs' : (os != some .eq) = true := by rw [bne, hs]; rfl
          clear hob
          go_enter Try.func41, Try.ntmps41
          go_wp2_with (go_at_call 43; refine (parts_any _ _ _).mono ?_; rintro e w1 ⟨rfl, hb1⟩)
          refine wp_loop_rounds 2 ?_
          rw [rounds_succ]
          go_wp2_with (go_at_call 44; refine (HT.out _).mono ?_; rintro e w2 ⟨rfl, rfl⟩)
          rw [rounds_succ]
          go_wp2_with (go_at_call 44; refine (HT2.out _).mono ?_; rintro e w2 ⟨rfl, rfl⟩)
          go_ret
          exact ⟨rfl, hb1⟩
        | true =>
          rw [hob] at hs
          have hs' : (os != some .eq) = false := by rw [bne, hs]; rfl
          clear hob
          go_enter Try.func41, Try.ntmps41
          go_wp2_with (go_at_call 43; refine (parts_any _ _ _).mono ?_; rintro e w1 ⟨rfl, hb1⟩)
          refine wp_loop_rounds 3 ?_
          rw [rounds_succ]
          go_wp2_with (go_at_call 44; refine (HT.out _).mono ?_; rintro e w2 ⟨rfl, rfl⟩)
          rw [rounds_succ]
          go_wp2_with (go_at_call 44; refine (HT2.out _).mono ?_; rintro e w2 ⟨rfl, rfl⟩)
          rw [rounds_succ]
          go_wp2
          go_ret
          exact ⟨rfl, hb1⟩

end Go.Proofs.Ytlhmfdklpjpnlaa
