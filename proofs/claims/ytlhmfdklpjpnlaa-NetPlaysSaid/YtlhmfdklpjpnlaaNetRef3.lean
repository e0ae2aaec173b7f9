/- The walks of the reference's New and Post. -/
import Derived.Test.YtlhmfdklpjpnlaaNetRef2
namespace Go.Proofs.Ytlhmfdklpjpnlaa
open Go.RowKit Punnet.Flt
set_option linter.unusedVariables false

/-- What the reference's New leaves. -/
def RefNew (w : World) (v0 v1 : Value) (rs is : List Int) (e : Ending) (w' : World) : Prop :=
  Below w.heap.size w w' ∧ ((newB rs is = false ∧ e = .returned (.tuple #[.pointer none, .int .i64 2])) ∨
    (newB rs is = true ∧ ∃ gm, e = .returned (.tuple #[.pointer (some ⟨gm, 0, none⟩), .int .i64 0]) ∧ w.heap.size ≤ gm ∧ w'.heap[gm]? = some (.cells #[v0, v1, .slice none 0 0, .int .i64 0, .int .i64 0, .int .i64 0] 53 (0, 0))))

theorem refNew_arg {rs is : List Int} {v1 v2 : Value} {w : World} (h1 : RowAt w v1 (i64s rs)) (h2 : RowAt w v2 (i64s is)) (hl1 : rs.length ≤ 9223372036854775807) (hl2 : is.length ≤ 9223372036854775807) (h : ¬ (rs.length = is.length ∧ 1 ≤ rs.length ∧ rs.length ≤ 6)) :
    Calls Try.prog 11 #[v1, v2] w (RefNew w v1 v2 rs is) := by
  obtain ⟨a1, c1, rfl⟩ := h1.len
  obtain ⟨a2, c2, rfl⟩ := h2.len
  clear h1 h2
  rw [i64s_len, i64s_len]
  have HV := Lib.hid (show newB rs is = false by unfold newB; rw [decide_eq_false h]; rfl)
  have key : (((rs.length : Int) != (is.length : Int)) = true) ∨ (((rs.length : Int) != (is.length : Int)) = false ∧ ((rs.length : Int) == 0) = true) ∨ (((rs.length : Int) != (is.length : Int)) = false ∧ ((rs.length : Int) == 0) = false ∧ (6 : Int) < rs.length) := by
    by_cases e : rs.length = is.length
    · right
      have e' : ((rs.length : Int) != (is.length : Int)) = false := bne_eq_false_iff_eq.2 (by omega)
      by_cases e2 : rs.length < 1
      · exact .inl ⟨e', beq_iff_eq.2 (by omega)⟩
      · exact .inr ⟨e', beq_eq_false_iff_ne.2 (by omega), by omega⟩
    · exact .inl (bne_iff_ne.2 (by omega))
  clear h
  generalize rs.length = n1 at *
  generalize is.length = n2 at *
  rcases key with k1 | ⟨k1, k2⟩ | ⟨k1, k2, k3⟩
  all_goals
    go_enter Try.func11, Try.ntmps11
    go_wp2_with fail
    go_ret2
    exact ⟨Below.refl _ _, .inl ⟨HV.out, rfl⟩⟩

set_option maxHeartbeats 2000000 in
theorem refNew_go {rs is : List Int} {b1 o1 c1 b2 o2 c2 : Nat} {w : World} (hl : rs.length = is.length) (h1 : 1 ≤ rs.length) (h6 : rs.length ≤ 6) (hb1 : b1 < w.heap.size) (hb2 : b2 < w.heap.size)
    (hc1 : ∀ j (hj : j < rs.length), w.cell? ⟨b1, o1 + j, none⟩ = some (.int .i64 rs[j])) (hc2 : ∀ j (hj : j < is.length), w.cell? ⟨b2, o2 + j, none⟩ = some (.int .i64 is[j])) :
    Calls Try.prog 11 #[.slice (some ⟨b1, o1, none⟩) rs.length c1, .slice (some ⟨b2, o2, none⟩) is.length c2] w (RefNew w (.slice (some ⟨b1, o1, none⟩) rs.length c1) (.slice (some ⟨b2, o2, none⟩) is.length c2) rs is) := by
  have HL := Lib.hid hl
  have HC1 := Lib.hid hc1
  have HC2 := Lib.hid hc2
  have hnz : ((rs.length : Int) != (is.length : Int)) = false := bne_eq_false_iff_eq.2 (by omega)
  have hg0 : ((rs.length : Int) == 0) = false := beq_eq_false_iff_ne.2 (by omega)
  have hg6 : ¬ (6 : Int) < rs.length := by omega
  have hl2 : is.length ≤ 6 := by omega
  clear hc1 hc2 hl
  go_enter Try.func11, Try.ntmps11
  go_wp2_with fail
  go_loopw [6] (fun i wr => ∃ k : Nat, k ≤ rs.length ∧ i = .int .i64 (k : Int) ∧ Below w.heap.size w wr ∧ (∀ p ∈ (places rs is).take k, smallB p.1 p.2 = true)) (fun i _ => rs.length - (intOf i).toNat)
  case atStart => exact ⟨0, by omega, rfl, Below.refl _ _, fun p hp => by simp at hp⟩
  case round =>
    obtain ⟨k, hk, rfl, hbw, hsm⟩ := hrel
    have HSM := Lib.hid hsm
    clear hsm
    by_cases hlt : k < rs.length
    · have hlt' : (k : Int) < rs.length := by omega
      have hlt2 : (k : Int) < is.length := by have := HL.out; omega
      have d1 : wr.cell? ⟨b1, o1 + k, none⟩ = _ := (hbw.cell (p := ⟨b1, o1 + k, none⟩) hb1).trans (HC1.out k hlt)
      have d2 : wr.cell? ⟨b2, o2 + k, none⟩ = _ := (hbw.cell (p := ⟨b2, o2 + k, none⟩) hb2).trans (HC2.out k (by have := HL.out; omega))
      have HP := Lib.hid (places_get HL.out hlt)
      generalize rs[k] = r at *
      generalize is[k]'(by have := HL.out; omega) = m at *
      have k0 : (0 : Int) ≤ k := by omega
      have SM := Lib.hid (fun W => refSmall_any r m W)
      cases hs : smallB r m with
      | true =>
        rw [hs] at SM
        have HN : Hid (∀ p ∈ (places rs is).take (k + 1), smallB p.1 p.2 = true) := by
          intro p hp
          obtain ⟨hkp, hpe⟩ := List.getElem?_eq_some_iff.1 HP.out
          rw [List.take_succ_eq_append_getElem hkp, List.mem_append, List.mem_singleton, hpe] at hp
          rcases hp with hp | rfl
          · exact HSM.out p hp
          · exact hs
        clear hs
        go_wp2_with fail
        go_region_held3 (fun w' => w'.cell? ⟨b1, o1 + k, none⟩ = some (.int .i64 r) ∧ w'.cell? ⟨b2, o2 + k, none⟩ = some (.int .i64 m))
          (first | go_keep)
          (first | (go_at_call 28; refine (SM.out _).mono ?_; rintro e ws ⟨rfl, rfl⟩))
        go_wp2_with fail
        go_roundw
        case rel => exact ⟨k + 1, by omega, by go_num, ⟨hbw.os, hbw.tape, hbw.output, hbw.size, hbw.block⟩, HN.out⟩
        case measure => simp [intOf]; omega
      | false =>
        rw [hs] at SM
        have HV := Lib.hid (show newB rs is = false by
          unfold newB
          rw [Bool.and_eq_false_iff]
          right
          rw [Bool.eq_false_iff]
          intro ha
          have := List.all_eq_true.1 ha _ (List.mem_of_getElem? HP.out)
          rw [hs] at this; cases this)
        clear hs
        go_wp2_with fail
        go_region_held3 (fun w' => w'.cell? ⟨b1, o1 + k, none⟩ = some (.int .i64 r) ∧ w'.cell? ⟨b2, o2 + k, none⟩ = some (.int .i64 m))
          (first | go_keep)
          (first | (go_at_call 28; refine (SM.out _).mono ?_; rintro e ws ⟨rfl, rfl⟩))
        go_wp2_with fail
        go_ret2
        exact ⟨⟨hbw.os, hbw.tape, hbw.output, hbw.size, hbw.block⟩, .inl ⟨HV.out, rfl⟩⟩
    · have hlt' : ¬ (k : Int) < rs.length := by omega
      have HV := Lib.hid (show newB rs is = true by
        unfold newB
        rw [Bool.and_eq_true, decide_eq_true_iff, List.all_eq_true]
        refine ⟨⟨HL.out, h1, h6⟩, fun p hp => HSM.out p ?_⟩
        rw [List.take_of_length_le (by rw [places_len HL.out]; omega)]; exact hp)
      go_wp2_with fail
      go_ret2
      exact ⟨hbw.alloc hbw.size _, .inr ⟨HV.out, _, rfl, hbw.size, heap_alloc_new wr _⟩⟩

theorem refNew_any {rs is : List Int} {v1 v2 : Value} {w : World} (h1 : RowAt w v1 (i64s rs)) (h2 : RowAt w v2 (i64s is)) (hl1 : rs.length ≤ 9223372036854775807) (hl2 : is.length ≤ 9223372036854775807) :
    Calls Try.prog 11 #[v1, v2] w (RefNew w v1 v2 rs is) := by
  by_cases h : rs.length = is.length ∧ 1 ≤ rs.length ∧ rs.length ≤ 6
  · obtain ⟨ha, hb, hc⟩ := h
    rcases h1 with ⟨h1, _⟩ | ⟨b1, o1, c1, rfl, _, p1, q1⟩
    · have := congrArg List.length h1; rw [i64s_len, List.length_nil] at this; omega
    rcases h2 with ⟨h2, _⟩ | ⟨b2, o2, c2, rfl, _, p2, q2⟩
    · have := congrArg List.length h2; rw [i64s_len, List.length_nil] at this; omega
    rw [i64s_len, i64s_len]
    refine refNew_go ha hb hc p1 p2 (fun j hj => ?_) (fun j hj => ?_)
    · rw [q1 j (by rw [i64s_len]; exact hj), i64s_get]
    · rw [q2 j (by rw [i64s_len]; exact hj), i64s_get]
  · exact refNew_arg h1 h2 hl1 hl2 h
end Go.Proofs.Ytlhmfdklpjpnlaa
