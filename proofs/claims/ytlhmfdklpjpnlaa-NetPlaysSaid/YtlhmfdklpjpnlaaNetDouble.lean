/- The walk of net.Double. -/
import Derived.Test.YtlhmfdklpjpnlaaNetPostOk
namespace Go.Proofs.Ytlhmfdklpjpnlaa
open Go.RowKit
set_option linter.unusedVariables false

theorem parC_get {L : List Par} {i : Nat} {p : Par} (h : L[i]? = some p) : (L.flatMap parC)[i * 3]? = some (.int .i64 p.1) ∧ (L.flatMap parC)[i * 3 + 1]? = some (.int .i64 p.2.1) ∧ (L.flatMap parC)[i * 3 + 2]? = some p.2.2.1 := by
  induction L generalizing i with
  | nil => simp at h
  | cons q L ih =>
    rw [List.flatMap_cons]
    cases i with
    | zero =>
      simp at h; subst h
      exact ⟨rfl, rfl, rfl⟩
    | succ i =>
      have h' : L[i]? = some p := by simpa using h
      obtain ⟨h1, h2, h3⟩ := ih h'
      have e : ∀ j, (parC q ++ L.flatMap parC)[(i + 1) * 3 + j]? = (L.flatMap parC)[i * 3 + j]? := by
        intro j
        rw [List.getElem?_append_right (by simp [parC]; omega)]
        simp only [parC, List.length_cons, List.length_nil]
        congr 1; omega
      exact ⟨(e 0).trans h1, (e 1).trans h2, (e 2).trans h3⟩
/-- A parcel's cells. -/
theorem PRow.at {w : World} {base : Nat} {pa : Value} {L : List Par} (h : PRow w base pa L) {i : Nat} {p : Par} (hi : L[i]? = some p) :
    ∃ b cap, pa = .slice (some ⟨b, 0, none⟩) L.length cap ∧ b < w.heap.size ∧ w.cell? ⟨b, i * 3, none⟩ = some (.int .i64 p.1) ∧ w.cell? ⟨b, i * 3 + 1, none⟩ = some (.int .i64 p.2.1) ∧ w.cell? ⟨b, i * 3 + 2, none⟩ = some p.2.2.1 := by
  have hl := (List.getElem?_eq_some_iff.1 hi).1
  obtain ⟨g, cap, e, _, hlt⟩ := h.1.form (by omega)
  subst e
  obtain ⟨_, h2 | ⟨b, off, cap', e, _, _, hc⟩⟩ := RowN.of_own h.1
  · omega
  · injection e with e _ _; injection e with e; injection e with e1 e2 _
    subst e1 e2
    obtain ⟨g1, g2, g3⟩ := parC_get hi
    have := hc _ _ g1; have := hc _ _ g2; have := hc _ _ g3
    simp only [Nat.zero_add] at *
    exact ⟨g, cap, rfl, hlt, by assumption, by assumption, by assumption⟩

theorem double_nil (i : Int) (w : World) : Calls Try.prog 21 #[.pointer none, .int .i64 i] w fun e w' => e = .returned (.int .i64 1) ∧ w = w' := by
  go_enter Try.func21, Try.ntmps21
  go_wp2_with fail
  refine (there_nil _ _).mono ?_
  rintro e w1 ⟨rfl, rfl⟩
  go_wp2_with fail
  go_ret
  exact ⟨rfl, rfl⟩
theorem double_no {w : World} {base g : Nat} {ps : List (Int × Int)} {pa : Value} {cut : Bool} {x y off : Int} {L : List Par} (hn : NetAt w base g ps pa cut x y off) (hp : PRow w base pa L) (i : Int) (h : i < 0 ∨ (L.length : Int) ≤ i) :
    Calls Try.prog 21 #[.pointer (some ⟨g, 0, none⟩), .int .i64 i] w fun e w' => e = .returned (.int .i64 6) ∧ w = w' := by
  have T := Lib.hid (there_no hn (RowN.of_own hp.1).len hp.2.2 i h)
  clear h hn hp
  go_enter Try.func21, Try.ntmps21
  go_wp2_with fail
  refine T.out.mono ?_
  rintro e w1 ⟨rfl, rfl⟩
  go_wp2_with fail
  go_ret
  exact ⟨rfl, rfl⟩
theorem double_full {w : World} {base g : Nat} {ps : List (Int × Int)} {pa : Value} {cut : Bool} {x y off : Int} {L : List Par} (hn : NetAt w base g ps pa cut x y off) (hp : PRow w base pa L) (i : Nat) (h : i < L.length) (h60 : 60 ≤ L.length) :
    Calls Try.prog 21 #[.pointer (some ⟨g, 0, none⟩), .int .i64 (i : Int)] w fun e w' => e = .returned (.int .i64 9) ∧ w = w' := by
  have T := Lib.hid (there_yes hn (RowN.of_own hp.1).len hp.2.2 i h)
  obtain ⟨a, cap, rfl⟩ := (RowN.of_own hp.1).len
  obtain ⟨h1, ⟨u, h2, h3⟩, h4⟩ := hn
  have c1 : w.cell? ⟨g, 1, none⟩ = some (.slice a L.length cap) := by rw [cell_block h2]; rfl
  have h60' : (60 : Int) ≤ L.length := by omega
  have hl := hp.2.2
  clear h h2 h3 h4 hp
  go_enter Try.func21, Try.ntmps21
  go_wp2_with fail
  refine T.out.mono ?_
  rintro e w1 ⟨rfl, rfl⟩
  go_wp2_with fail
  go_ret
  exact ⟨rfl, rfl⟩

set_option maxRecDepth 100000 in
set_option maxHeartbeats 4000000 in
theorem double_yes {w : World} {base g : Nat} {ps : List (Int × Int)} {pa : Value} {cut : Bool} {x y off : Int} {L : List Par} (hn : NetAt w base g ps pa cut x y off) (hp : PRow w base pa L) (hbase : base ≤ w.heap.size) {i : Nat} {f t : Int} {bq : Value} {bs : List UInt8} (hi : L[i]? = some (f, t, bq, bs)) (h60 : L.length < 60) :
    Calls Try.prog 21 #[.pointer (some ⟨g, 0, none⟩), .int .i64 (i : Int)] w (Sent w base g ps pa cut x y off L f t bs) := by
  obtain ⟨i0, hi0, hz0, hz1, hz2⟩ := info_parts par_info
  have hil := (List.getElem?_eq_some_iff.1 hi).1
  have T := Lib.hid (there_yes hn (RowN.of_own hp.1).len hp.2.2 i hil)
  have HN := Lib.hid hn
  have HP := Lib.hid hp
  obtain ⟨b, cap', rfl, hbl, d0, d1, d2⟩ := hp.at hi
  obtain ⟨ho, hbs⟩ := hp.2.1 _ (List.mem_of_getElem? hi)
  obtain ⟨av, capv, e⟩ := (RowN.of_own ho).len
  simp only at e ho hbs d0 d1 d2
  subst e
  have HV := Lib.hid (RowN.of_own ho)
  have OW := Lib.hid (fun (W : World) (h : RowN 1 W (.slice av bs.length capv) bs.length (u8s bs)) => own_any f t h (by omega))
  have hpr := hp.1
  obtain ⟨h1, ⟨u, h2, h3⟩, h4⟩ := hn
  have c1 : w.cell? ⟨g, 1, none⟩ = some (.slice (some ⟨b, 0, none⟩) L.length cap') := by rw [cell_block h2]; rfl
  have f1 : w.frozen? ⟨g, 1, none⟩ = false := free_block h2
  have hgl := block_lt h2
  have h60' : ¬ (60 : Int) ≤ L.length := by omega
  have il : (i : Int) < L.length := by omega
  have i0' : (0 : Int) ≤ i := by omega
  have H2 := Lib.hid h2
  clear h2 h3 h4 hp hpr ho hi
  go_enter Try.func21, Try.ntmps21
  go_wp2_with fail
  refine T.out.mono ?_
  rintro e w1 ⟨rfl, rfl⟩
  go_wp2_with fail
  go_region_law (first
    | (refine step_append_lies _ (by rfl) _ _ _ (by rfl) base 45 i0 _ 3 40 Try.underlying49 hi0 hz0 hz1 hz2 rfl (by omega) (.slice (some ⟨b, 0, none⟩) L.length cap') L.length (L.flatMap parC) (by rfl) ((own_later (own_later HP.out.1 (Below.refl _ w).drew) hb).alloc _) ⟨ws.heap.size, 0, none⟩ 1 1 [.int .i64 f, .int .i64 t, bv] (by rfl) (by rfl) (World.news_of_block (cs := #[.int .i64 f, .int .i64 t, bv]) (t := 45) (fr := (0, 0)) (heap_alloc_new ws _)) (one3 bvo) (by omega) (by simp only [maxLen]; omega) (by omega) (by simp; have := hb.size; simp at this; omega) (ws.heap.size + 1) (by simp) ?_; intro gg cap w4 hown4 hgrow hat hlt; have q4 := append_keeps ((hb.block g hgl).trans H2.out) (own_later (own_later HP.out.1 (Below.refl _ w).drew) hb) (by decide) hgrow; have z4 : w4.cell? ⟨g, 1, none⟩ = some (.slice (some ⟨b, 0, none⟩) L.length cap') := (cell_block q4); have y4 : w4.frozen? ⟨g, 1, none⟩ = false := free_block q4; clear q4)
    | (go_simp; go_at_call 30; refine (OW.out w.drew (HV.out.later (Below.refl _ _).drew)).mono ?_; rintro e ws ⟨bv, rfl, ho, hb⟩; have c1s : ws.cell? ⟨g, 1, none⟩ = some (.slice (some ⟨b, 0, none⟩) L.length cap') := (hb.cell (p := ⟨g, 1, none⟩) hgl).trans c1; have hgs : g < ws.heap.size := World.block_lt_of_cell? ws _ c1s; have HO := Lib.hid ho; have bvo : bv.oneCell' = true := own_one ho; clear ho))
  all_goals
    go_wp2_with fail
    go_ret
    exact sent_close HN.out HP.out hbase h60 (⟨hb.os, hb.tape, hb.output, hb.size, hb.block⟩ : Below w.heap.size w ws) HO.out hbs ((Below.refl _ _).alloc (Nat.le_refl _) _) hgrow hown4 hat (by simp)
end Go.Proofs.Ytlhmfdklpjpnlaa
