/- The walk of the reference's Same at parcels that say the same; net.Places. -/
import Derived.Test.YtlhmfdklpjpnlaaNetRef7
namespace Go.Proofs.Ytlhmfdklpjpnlaa
open Go.RowKit Punnet.Flt
set_option linter.unusedVariables false

/-- A row of parcels that is read. -/
def PRead (w : World) (v : Value) (L : List Par) : Prop := RowN 3 w v L.length (L.flatMap parC) ∧ (∀ p ∈ L, RowN 1 w p.2.2.1 p.2.2.2.length (u8s p.2.2.2) ∧ p.2.2.2.length ≤ 61000) ∧ L.length ≤ 60
theorem PRead.later {w w' : World} {v : Value} {L : List Par} (h : PRead w v L) (hb : Below w.heap.size w w') : PRead w' v L := ⟨h.1.later hb, fun p hp => ⟨(h.2.1 p hp).1.later hb, (h.2.1 p hp).2⟩, h.2.2⟩
theorem PRow.read {w : World} {base : Nat} {v : Value} {L : List Par} (h : PRow w base v L) : PRead w v L := ⟨RowN.of_own h.1, fun p hp => ⟨RowN.of_own (h.2.1 p hp).1, (h.2.1 p hp).2⟩, h.2.2⟩
theorem RefAt.read {w0 w : World} {gm : Nat} {v0 v1 ml : Value} {rs is : List Int} {L : List Par} {x y off : Int} (h : RefAt w0 w gm v0 v1 ml rs is L x y off) : PRead w ml L :=
  ⟨RowN.of_own h.2.2.1, fun p hp => ⟨(h.2.2.2.1 p hp).1.later h.2.2.2.2.2.1, (h.2.2.2.1 p hp).2⟩, h.2.2.2.2.1⟩
theorem PRead.at {w : World} {v : Value} {L : List Par} (h : PRead w v L) {i : Nat} {p : Par} (hi : L[i]? = some p) :
    ∃ b o cap, v = .slice (some ⟨b, o, none⟩) L.length cap ∧ w.cell? ⟨b, o + i * 3, none⟩ = some (.int .i64 p.1) ∧ w.cell? ⟨b, o + i * 3 + 1, none⟩ = some (.int .i64 p.2.1) ∧ w.cell? ⟨b, o + i * 3 + 2, none⟩ = some p.2.2.1 := by
  have hl := (List.getElem?_eq_some_iff.1 hi).1
  obtain ⟨_, h2 | ⟨b, o, cap, e, _, _, hc⟩⟩ := h.1
  · omega
  · obtain ⟨g1, g2, g3⟩ := parC_get hi
    exact ⟨b, o, cap, e, hc _ _ g1, by rw [Nat.add_assoc]; exact hc _ _ g2, by rw [Nat.add_assoc]; exact hc _ _ g3⟩

set_option maxHeartbeats 4000000 in
theorem refSame_yes {w : World} {v v' : Value} {L M : List Par} (h1 : PRead w v L) (h2 : PRead w v' M) (hd : L.map dat = M.map dat) :
    Calls Try.prog 18 #[v, v'] w fun e w' => e = .returned (.bool true) ∧ Below w.heap.size w w' := by
  have hlen : L.length = M.length := by have := congrArg List.length hd; simpa using this
  have H1 := Lib.hid h1
  have H2 := Lib.hid h2
  have HD := Lib.hid hd
  have HLEN := Lib.hid hlen
  obtain ⟨a, c, rfl⟩ := h1.1.len
  obtain ⟨a', c', rfl⟩ := h2.1.len
  have hl60 := h1.2.2
  have hm60 := h2.2.2
  have hne : ((L.length : Int) != (M.length : Int)) = false := bne_eq_false_iff_eq.2 (by omega)
  clear h1 h2 hd hlen
  go_enter Try.func18, Try.ntmps18
  go_wp2_with fail
  go_loopw [5] (fun i wr => ∃ k : Nat, k ≤ L.length ∧ i = .int .i64 (k : Int) ∧ Below w.heap.size w wr) (fun i _ => L.length - (intOf i).toNat)
  case atStart => exact ⟨0, by omega, rfl, Below.refl _ _⟩
  case round =>
    obtain ⟨k, hk, rfl, hbw⟩ := hrel
    by_cases hlt : k < L.length
    · have hlt' : (k : Int) < L.length := by omega
      have hlt2 : (k : Int) < M.length := by have := HLEN.out; omega
      have k0 : (0 : Int) ≤ k := by omega
      obtain ⟨⟨f, t, bv, bs⟩, hL⟩ : ∃ p, L[k]? = some p := ⟨_, List.getElem?_eq_getElem hlt⟩
      obtain ⟨⟨f', t', bv', bs'⟩, hM⟩ : ∃ p, M[k]? = some p := ⟨_, List.getElem?_eq_getElem (by have := HLEN.out; omega)⟩
      have he : dat (f, t, bv, bs) = dat (f', t', bv', bs') := by
        have := congrArg (fun x => x[k]?) HD.out
        simp only [List.getElem?_map, hL, hM, Option.map_some] at this
        injection this
      simp only [dat] at he
      injection he with e1 he; injection he with e2 e3
      subst e1 e2 e3
      obtain ⟨b, o, cap, e, d0, d1, d2⟩ := (H1.out.later hbw).at hL
      injection e with e q1 q2
      subst e q2
      obtain ⟨b', o', cap', e, g0, g1, g2⟩ := (H2.out.later hbw).at hM
      injection e with e q3 q4
      subst e q4
      clear q1 q3
      have r1 := ((H1.out.later hbw).2.1 _ (List.mem_of_getElem? hL)).1
      have r2 := ((H2.out.later hbw).2.1 _ (List.mem_of_getElem? hM)).1
      simp only at r1 r2 d0 d1 d2 g0 g1 g2
      obtain ⟨av, cv, e⟩ := r1.len
      subst e
      obtain ⟨av', cv', e⟩ := r2.len
      subst e
      have cv1 := fun W (h : Below wr.heap.size wr W) => conv_u8s (r1.later h)
      have cv2 := fun W (h : Below wr.heap.size wr W) => conv_u8s (r2.later h)
      have x1 := cv1 wr (Below.refl _ _)
      have x2 := cv2 wr (Below.refl _ _)
      have x3 := fun n => cv1 (wr.drewN n) ⟨rfl, rfl, rfl, Nat.le_refl _, fun _ _ => rfl⟩
      have x4 := fun n => cv2 (wr.drewN n) ⟨rfl, rfl, rfl, Nat.le_refl _, fun _ _ => rfl⟩
      have n1 : ((f : Int) != f) = false := by simp
      have n2 : ((t : Int) != t) = false := by simp
      clear hL hM r1 r2 cv1 cv2
      go_wp2_with fail
      go_quiet (fail)
      go_wp2_with fail
      go_roundw
      case rel => exact ⟨k + 1, by omega, by go_num, ⟨hbw.os, hbw.tape, hbw.output, hbw.size, hbw.block⟩⟩
      case measure => simp [intOf]; omega
    · have hlt' : ¬ (k : Int) < L.length := by omega
      go_wp2_with fail
      go_ret
      exact ⟨rfl, hbw⟩

/-- The places told. -/
theorem netPlaces_any {w : World} {base g : Nat} {ps : List (Int × Int)} {pa : Value} {cut : Bool} {x y off : Int} (hn : NetAt w base g ps pa cut x y off) :
    Calls Try.prog 12 #[.pointer (some ⟨g, 0, none⟩)] w (ClonePost 39 1 w ps.length (ps.map cpx)) := by
  obtain ⟨h1, ⟨v, h2, h3⟩, h4, _⟩ := hn
  have CL := Lib.hid (cloneC (RowN.of_own h3) (by
    intro u hu
    obtain ⟨p, _, rfl⟩ := List.mem_map.1 hu
    rfl) (by omega))
  obtain ⟨aa, cap, rfl⟩ := (RowN.of_own h3).len
  have c0 : w.cell? ⟨g, 0, none⟩ = some (.slice aa ps.length cap) := by rw [cell_block h2]; rfl
  clear h2 h3
  go_enter Try.func12, Try.ntmps12
  go_wp2_with fail
  refine CL.out.mono ?_
  rintro e w2 ⟨v', rfl, ho, hb⟩
  have HO := Lib.hid ho
  clear ho
  go_wp2_with fail
  go_ret
  exact ⟨_, rfl, HO.out, hb⟩
end Go.Proofs.Ytlhmfdklpjpnlaa
