/- The walks of the reference's Take and Double. -/
import Derived.Test.YtlhmfdklpjpnlaaNetRef5
import Derived.Outline
namespace Go.Proofs.Ytlhmfdklpjpnlaa
open Go.RowKit Punnet.Flt
set_option linter.unusedVariables false

theorem refTake_no {w0 w : World} {gm : Nat} {v0 v1 ml : Value} {rs is : List Int} {L : List Par} {x y off : Int} (hr : RefAt w0 w gm v0 v1 ml rs is L x y off) (i : Int) (h : i < 0 ∨ (L.length : Int) ≤ i) :
    Calls Try.prog 17 #[.pointer (some ⟨gm, 0, none⟩), .int .i64 i] w (NotTaken 6 w) := by
  obtain ⟨h1, h2, h3, h4, h5, h6, h7⟩ := hr
  obtain ⟨a', cap', rfl⟩ := (RowN.of_own h3).len
  have c2 : w.cell? ⟨gm, 2, none⟩ = some (.slice a' L.length cap') := by rw [cell_block h2]; rfl
  have hgl := block_lt h2
  clear h2 h3 h4 h6 h7
  by_cases h0 : i < 0
  · go_enter Try.func17, Try.ntmps17
    go_wp2_with fail
    refine bodyPost_ret (v := .tuple #[.agg #[.int .i64 0, .int .i64 0, .slice none 0 0], .int .i64 6]) (by simp [results, Try.results17, go_sem]) rfl ⟨rfl, ?_⟩
    exact (Below.refl _ _).alloc (Nat.le_refl _) _
  · have h' : (L.length : Int) ≤ i := by omega
    clear h
    go_enter Try.func17, Try.ntmps17
    go_wp2_with fail
    refine bodyPost_ret (v := .tuple #[.agg #[.int .i64 0, .int .i64 0, .slice none 0 0], .int .i64 6]) (by simp [results, Try.results17, go_sem]) rfl ⟨rfl, ?_⟩
    exact (Below.refl _ _).alloc (Nat.le_refl _) _

theorem RefAt.at {w0 w : World} {gm : Nat} {v0 v1 ml : Value} {rs is : List Int} {L : List Par} {x y off : Int} (hr : RefAt w0 w gm v0 v1 ml rs is L x y off) {i : Nat} {p : Par} (hi : L[i]? = some p) :
    ∃ b cap, ml = .slice (some ⟨b, 0, none⟩) L.length cap ∧ b < w.heap.size ∧ w.cell? ⟨b, i * 3, none⟩ = some (.int .i64 p.1) ∧ w.cell? ⟨b, i * 3 + 1, none⟩ = some (.int .i64 p.2.1) ∧ w.cell? ⟨b, i * 3 + 2, none⟩ = some p.2.2.1 := by
  obtain ⟨b, cap, e, _, h1, h2, h3, h4, _⟩ := row_at hr.2.2.1 hi
  exact ⟨b, cap, e, h1, h2, h3, h4⟩

/-- Stores elsewhere. -/
theorem RefAt.far {S : Nat → Prop} {w0 w w' : World} {gm : Nat} {v0 v1 ml : Value} {rs is : List Int} {L : List Par} {x y off : Int} (h : RefAt w0 w gm v0 v1 ml rs is L x y off) (hs : Spares S w w') (hg : ¬ S gm) (hm : ∀ k, ml.ownBlock = some k → ¬ S k) (hb : ∀ k, S k → w0.heap.size ≤ k) : RefAt w0 w' gm v0 v1 ml rs is L x y off := by
  obtain ⟨h1, h2, h3, h4, h5, h6, h7⟩ := h
  exact ⟨h1, (hs.block gm (block_lt h2) hg).trans h2, own_spares h3 hs hm, h4, h5, h6.trans (hs.below h6.size hb), h7⟩

set_option maxHeartbeats 2000000 in
theorem refTake_gap {w0 w : World} {gm : Nat} {v0 v1 ml : Value} {rs is : List Int} {L : List Par} {x y off : Int} (hr : RefAt w0 w gm v0 v1 ml rs is L x y off) {i : Nat} {f t : Int} {bq : Value} {bs : List UInt8} (hi : L[i]? = some (f, t, bq, bs)) (ha : apartB (places rs is) true x y off f t = true) :
    Calls Try.prog 17 #[.pointer (some ⟨gm, 0, none⟩), .int .i64 (i : Int)] w (NotTaken 17 w) := by
  have hil := (List.getElem?_eq_some_iff.1 hi).1
  have hb0 : Below w.heap.size w (w.alloc (.cells #[.int .i64 0, .int .i64 0, .slice none 0 0] 45)) := (Below.refl _ _).alloc (Nat.le_refl _) _
  obtain ⟨b, cap, rfl, hbl, d0, d1, d2⟩ := hr.at hi
  obtain ⟨av, capv, e⟩ := (hr.2.2.2.1 _ (List.mem_of_getElem? hi)).1.len
  simp only at e d0 d1 d2
  subst e
  have AP := Lib.hid (fun (W : World) (N : RefAt w0 W gm v0 v1 (.slice (some ⟨b, 0, none⟩) L.length cap) rs is L x y off) => refApart_any N f t ha)
  have HR := Lib.hid hr
  have hl := hr.2.2.2.2.1
  have c2 : w.cell? ⟨gm, 2, none⟩ = some (.slice (some ⟨b, 0, none⟩) L.length cap) := by rw [cell_block hr.2.1]; rfl
  have hgl := block_lt hr.2.1
  have i00 : ¬ (i : Int) < 0 := by omega
  have iln : ¬ (L.length : Int) ≤ i := by omega
  have il : (i : Int) < L.length := by omega
  have i0' : (0 : Int) ≤ i := by omega
  clear hr hi ha
  go_enter Try.func17, Try.ntmps17
  go_wp2_with fail
  refine (AP.out _ (HR.out.later ?_)).mono ?_
  · exact hb0.alloc (by simp) _
  rintro e ws ⟨rfl, hb⟩
  have k1 : ws.heap[w.heap.size]? = some (.cells #[.int .i64 0, .int .i64 0, .slice none 0 0] 45 (0, 0)) := by
    rw [hb.block _ (by simp; omega)]; exact alloc2_first w _ _
  obtain ⟨e1, e2, e3, e4, e5, e6⟩ := block3 k1
  have hbw : Below w.heap.size w ws := (hb0.alloc (by simp) _).trans (hb.mono (by simp; omega))
  clear hb k1
  go_wp2_with fail
  refine bodyPost_ret (v := .tuple #[.agg #[.int .i64 0, .int .i64 0, .slice none 0 0], .int .i64 17]) (by simp [results, Try.results17, go_sem, e1, e2, e3]) rfl ⟨rfl, ?_⟩
  exact hbw.trans (Spares.below (S := fun k => w.heap.size ≤ k) (Spares.setAt (Spares.setAt (Spares.setAt (Spares.refl _ _) (Nat.le_refl _)) (Nat.le_refl _)) (Nat.le_refl _)) hbw.size (fun k h => h))

set_option maxHeartbeats 2000000 in
theorem refTake_yes {w0 w : World} {gm : Nat} {v0 v1 ml : Value} {rs is : List Int} {L : List Par} {x y off : Int} (hr : RefAt w0 w gm v0 v1 ml rs is L x y off) {i : Nat} {f t : Int} {bq : Value} {bs : List UInt8} (hi : L[i]? = some (f, t, bq, bs)) (ha : apartB (places rs is) true x y off f t = false) :
    Calls Try.prog 17 #[.pointer (some ⟨gm, 0, none⟩), .int .i64 (i : Int)] w fun e w' => e = .returned (.tuple #[.agg #[.int .i64 f, .int .i64 t, bq], .int .i64 0]) ∧ RefMove w0 w gm v0 v1 rs is (less L i) x y off w' := by
  have hil := (List.getElem?_eq_some_iff.1 hi).1
  have hb0 : Below w.heap.size w (w.alloc (.cells #[.int .i64 0, .int .i64 0, .slice none 0 0] 45)) := (Below.refl _ _).alloc (Nat.le_refl _) _
  obtain ⟨b, cap, rfl, hbl, d0, d1, d2⟩ := hr.at hi
  obtain ⟨av, capv, e⟩ := (hr.2.2.2.1 _ (List.mem_of_getElem? hi)).1.len
  simp only at e d0 d1 d2
  subst e
  have AP := Lib.hid (fun (W : World) (N : RefAt w0 W gm v0 v1 (.slice (some ⟨b, 0, none⟩) L.length cap) rs is L x y off) => refApart_any N f t ha)
  have HR := Lib.hid hr
  have hl := hr.2.2.2.2.1
  have c2 : w.cell? ⟨gm, 2, none⟩ = some (.slice (some ⟨b, 0, none⟩) L.length cap) := by rw [cell_block hr.2.1]; rfl
  have hgl := block_lt hr.2.1
  have i00 : ¬ (i : Int) < 0 := by omega
  have iln : ¬ (L.length : Int) ≤ i := by omega
  have il : (i : Int) < L.length := by omega
  have i0' : (0 : Int) ≤ i := by omega
  clear hr hi ha
  go_enter Try.func17, Try.ntmps17
  go_wp2_with fail
  refine (AP.out _ (HR.out.later ?_)).mono ?_
  · exact hb0.alloc (by simp) _
  rintro e ws ⟨rfl, hb⟩
  have k1 : ws.heap[w.heap.size]? = some (.cells #[.int .i64 0, .int .i64 0, .slice none 0 0] 45 (0, 0)) := by
    rw [hb.block _ (by simp; omega)]; exact alloc2_first w _ _
  have k2 : ws.heap[w.heap.size + 1]? = some (.cells #[.int .i64 f, .int .i64 t, .slice av bs.length capv] 45 (0, 0)) := by
    rw [hb.block _ (by simp)]; exact alloc2_second w _ _
  obtain ⟨p1, p2, p3, _, _, _⟩ := block3 k2
  have hbw : Below w.heap.size w ws := (hb0.alloc (by simp) _).trans (hb.mono (by simp; omega))
  have K1 := Lib.hid k1
  have K2 := Lib.hid k2
  have LO := Lib.hid (refLose_yes ((HR.out.later hbw).later ((Below.refl _ _).drew)) hil)
  have hbz := hbw.size
  have hz2 := block_lt K2.out
  clear hb k1 k2 d0 d1 d2 c2
  go_wp2_with fail
  go_region_held3 (fun w' => w'.cell? ⟨w.heap.size + 1, 0, none⟩ = some (.int .i64 f) ∧ w'.cell? ⟨w.heap.size + 1, 1, none⟩ = some (.int .i64 t) ∧ w'.cell? ⟨w.heap.size + 1, 2, none⟩ = some (.slice av bs.length capv))
    (first
      | go_keep
      | (refine ⟨?_, ?_, ?_⟩
         · (rw [hsl.cell (p := ⟨w.heap.size + 1, 0, none⟩) (by simp; omega) (by simp; omega)]; exact p1)
         · (rw [hsl.cell (p := ⟨w.heap.size + 1, 1, none⟩) (by simp; omega) (by simp; omega)]; exact p2)
         · (rw [hsl.cell (p := ⟨w.heap.size + 1, 2, none⟩) (by simp; omega) (by simp; omega)]; exact p3)))
    (first | (go_at_call 20; refine LO.out.mono ?_; rintro e wl ⟨rfl, ml', hml, hsl, hfr⟩; have kl : wl.heap[w.heap.size]? = some (.cells #[.int .i64 0, .int .i64 0, .slice none 0 0] 45 (0, 0)) := (hsl.block w.heap.size (show w.heap.size < ws.heap.size by omega) (show ¬ w.heap.size = gm by omega)).trans K1.out; obtain ⟨e1, e2, e3, e4, e5, e6⟩ := block3 kl; have HML := Lib.hid hml; have HFR := Lib.hid hfr; clear hml hfr kl))
  have n1 : w.heap.size ≠ gm := by omega
  go_wp2_with fail
  refine bodyPost_ret (v := .tuple #[.agg #[.int .i64 f, .int .i64 t, .slice av bs.length capv], .int .i64 0]) (by simp [results, Try.results17, go_sem, e1, e2, e3]) rfl ⟨rfl, ml', ?_, ?_, fun k hk => ?_⟩
  · exact HML.out.far (S := (· = w.heap.size)) (((Spares.refl (· = w.heap.size) wl).set1.set1).set1) (fun e => n1 e.symm) (fun k hk e => absurd (HFR.out k hk) (by show ¬ ws.heap.size ≤ k; omega)) (fun k e => e ▸ (Nat.le_trans HR.out.2.2.2.2.2.1.size (Nat.le_refl _)))
  · have s1 : Spares (· = gm) w wl := (hbw.spares _).trans ⟨hsl.os, hsl.tape, hsl.output, hsl.size, hsl.block⟩
    have s2 : Spares (· = w.heap.size) wl (((wl.setCell ⟨w.heap.size, 0, none⟩ (.int .i64 f)).setCell ⟨w.heap.size, 1, none⟩ (.int .i64 t)).setCell ⟨w.heap.size, 2, none⟩ (.slice av bs.length capv)) := ((Spares.refl (· = w.heap.size) wl).set1.set1).set1
    exact ⟨s2.os.trans s1.os, s2.tape.trans s1.tape, s2.output.trans s1.output, Nat.le_trans s1.size s2.size, fun k hk hs => (s2.block k (Nat.lt_of_lt_of_le hk s1.size) (by show ¬ k = w.heap.size; omega)).trans (s1.block k hk hs)⟩
  · have := HFR.out k hk
    have h2 : ws.heap.size ≤ k := this
    omega
end Go.Proofs.Ytlhmfdklpjpnlaa
