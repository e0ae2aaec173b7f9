/- The walk of net.Take. -/
import Derived.Test.YtlhmfdklpjpnlaaNetTake
import Derived.Outline
namespace Go.Proofs.Ytlhmfdklpjpnlaa
open Go.RowKit
set_option linter.unusedVariables false

def noPar : Value := .agg #[.int .i64 0, .int .i64 0, .slice none 0 0]
/-- No parcel is taken; why. -/
def NotTaken (c : Int) (w : World) (e : Ending) (w' : World) : Prop := e = .returned (.tuple #[.agg #[.int .i64 0, .int .i64 0, .slice none 0 0], .int .i64 c]) ∧ Below w.heap.size w w'

theorem take_nil (i : Int) (w : World) : Calls Try.prog 16 #[.pointer none, .int .i64 i] w (NotTaken 1 w) := by
  go_enter Try.func16, Try.ntmps16
  go_wp2_with fail
  refine (there_nil _ _).mono ?_
  rintro e w1 ⟨rfl, rfl⟩
  go_wp2_with fail
  refine bodyPost_ret (v := .tuple #[.agg #[.int .i64 0, .int .i64 0, .slice none 0 0], .int .i64 1]) (by simp [results, Try.results16, go_sem]) rfl ⟨rfl, ?_⟩
  exact (Below.refl _ _).alloc (Nat.le_refl _) _
theorem take_no {w : World} {base g : Nat} {ps : List (Int × Int)} {pa : Value} {cut : Bool} {x y off : Int} {L : List Par} (hn : NetAt w base g ps pa cut x y off) (hp : PRow w base pa L) (i : Int) (h : i < 0 ∨ (L.length : Int) ≤ i) :
    Calls Try.prog 16 #[.pointer (some ⟨g, 0, none⟩), .int .i64 i] w (NotTaken 6 w) := by
  have hb0 : Below w.heap.size w (w.alloc (.cells #[.int .i64 0, .int .i64 0, .slice none 0 0] 45)) := (Below.refl _ _).alloc (Nat.le_refl _) _
  have T := Lib.hid (there_no (hn.later hb0) (RowN.of_own hp.1).len hp.2.2 i h)
  clear h hn hp
  go_enter Try.func16, Try.ntmps16
  go_wp2_with fail
  refine T.out.mono ?_
  rintro e w1 ⟨rfl, rfl⟩
  go_wp2_with fail
  refine bodyPost_ret (v := .tuple #[.agg #[.int .i64 0, .int .i64 0, .slice none 0 0], .int .i64 6]) (by simp [results, Try.results16, go_sem]) rfl ⟨rfl, ?_⟩
  exact (Below.refl _ _).alloc (Nat.le_refl _) _

set_option maxHeartbeats 2000000 in
theorem take_gap {w : World} {base g : Nat} {ps : List (Int × Int)} {pa : Value} {cut : Bool} {x y off : Int} {L : List Par} (hn : NetAt w base g ps pa cut x y off) (hp : PRow w base pa L) {i : Nat} {f t : Int} {bq : Value} {bs : List UInt8} (hi : L[i]? = some (f, t, bq, bs)) (ha : apartB ps cut x y off f t = true) :
    Calls Try.prog 16 #[.pointer (some ⟨g, 0, none⟩), .int .i64 (i : Int)] w (NotTaken 17 w) := by
  have hil := (List.getElem?_eq_some_iff.1 hi).1
  have hb0 : Below w.heap.size w (w.alloc (.cells #[.int .i64 0, .int .i64 0, .slice none 0 0] 45)) := (Below.refl _ _).alloc (Nat.le_refl _) _
  have T := Lib.hid (there_yes (hn.later hb0) (RowN.of_own hp.1).len hp.2.2 i hil)
  obtain ⟨b, cap, rfl, hbl, d0, d1, d2⟩ := hp.at hi
  obtain ⟨av, capv, e⟩ := (RowN.of_own (hp.2.1 _ (List.mem_of_getElem? hi)).1).len
  simp only at e d0 d1 d2
  subst e
  have AP := Lib.hid (fun (W : World) (N : NetAt W base g ps (.slice (some ⟨b, 0, none⟩) L.length cap) cut x y off) => apart_is N ha)
  have HN := Lib.hid hn
  obtain ⟨h1, ⟨u, h2, h3⟩, h4⟩ := hn
  have c1 : w.cell? ⟨g, 1, none⟩ = some (.slice (some ⟨b, 0, none⟩) L.length cap) := by rw [cell_block h2]; rfl
  have hgl := block_lt h2
  have hl := hp.2.2
  have il : (i : Int) < L.length := by omega
  have i0' : (0 : Int) ≤ i := by omega
  clear h2 h3 h4 hp hi ha
  go_enter Try.func16, Try.ntmps16
  go_wp2_with fail
  refine T.out.mono ?_
  rintro e w1 ⟨rfl, rfl⟩
  go_wp2_with fail
  refine (AP.out _ (HN.out.later ?_)).mono ?_
  · exact hb0.alloc (by simp) _
  rintro e ws ⟨rfl, hb⟩
  have k1 : ws.heap[w.heap.size]? = some (.cells #[.int .i64 0, .int .i64 0, .slice none 0 0] 45 (0, 0)) := by
    rw [hb.block _ (by simp; omega)]; exact alloc2_first w _ _
  obtain ⟨e1, e2, e3, e4, e5, e6⟩ := block3 k1
  have hbw : Below w.heap.size w ws := (hb0.alloc (by simp) _).trans (hb.mono (by simp; omega))
  clear hb k1
  go_wp2_with fail
  refine bodyPost_ret (v := .tuple #[.agg #[.int .i64 0, .int .i64 0, .slice none 0 0], .int .i64 17]) (by simp [results, Try.results16, go_sem, e1, e2, e3]) rfl ⟨rfl, ?_⟩
  exact hbw.trans (Spares.below (S := fun k => w.heap.size ≤ k) (Spares.setAt (Spares.setAt (Spares.setAt (Spares.refl _ _) (Nat.le_refl _)) (Nat.le_refl _)) (Nat.le_refl _)) hbw.size (fun k h => h))

set_option maxHeartbeats 2000000 in
theorem take_yes {w : World} {base g : Nat} {ps : List (Int × Int)} {pa : Value} {cut : Bool} {x y off : Int} {L : List Par} (hn : NetAt w base g ps pa cut x y off) (hp : PRow w base pa L) {i : Nat} {f t : Int} {bq : Value} {bs : List UInt8} (hi : L[i]? = some (f, t, bq, bs)) (ha : apartB ps cut x y off f t = false) :
    Calls Try.prog 16 #[.pointer (some ⟨g, 0, none⟩), .int .i64 (i : Int)] w fun e w' => e = .returned (.tuple #[.agg #[.int .i64 f, .int .i64 t, bq], .int .i64 0]) ∧ Lost w base g ps pa cut x y off L i w' := by
  have hil := (List.getElem?_eq_some_iff.1 hi).1
  have hb0 : Below w.heap.size w (w.alloc (.cells #[.int .i64 0, .int .i64 0, .slice none 0 0] 45)) := (Below.refl _ _).alloc (Nat.le_refl _) _
  have T := Lib.hid (there_yes (hn.later hb0) (RowN.of_own hp.1).len hp.2.2 i hil)
  obtain ⟨b, cap, rfl, hbl, d0, d1, d2⟩ := hp.at hi
  obtain ⟨av, capv, e⟩ := (RowN.of_own (hp.2.1 _ (List.mem_of_getElem? hi)).1).len
  simp only at e d0 d1 d2
  subst e
  have AP := Lib.hid (fun (W : World) (N : NetAt W base g ps (.slice (some ⟨b, 0, none⟩) L.length cap) cut x y off) => apart_is N ha)
  have HN := Lib.hid hn
  have HP := Lib.hid hp
  obtain ⟨h1, ⟨u, h2, h3⟩, h4⟩ := hn
  obtain ⟨_, cur, hcb⟩ := own_block hp.1 rfl
  have gb : g ≠ b := ne_type h2 hcb (by decide)
  have H2 := Lib.hid h2
  have c1 : w.cell? ⟨g, 1, none⟩ = some (.slice (some ⟨b, 0, none⟩) L.length cap) := by rw [cell_block h2]; rfl
  have hgl := block_lt h2
  have hl := hp.2.2
  have il : (i : Int) < L.length := by omega
  have i0' : (0 : Int) ≤ i := by omega
  clear h2 h3 h4 hp hi ha hcb
  go_enter Try.func16, Try.ntmps16
  go_wp2_with fail
  refine T.out.mono ?_
  rintro e w1 ⟨rfl, rfl⟩
  go_wp2_with fail
  refine (AP.out _ (HN.out.later ?_)).mono ?_
  · exact hb0.alloc (by simp) _
  rintro e ws ⟨rfl, hb⟩
  have k1 : ws.heap[w.heap.size]? = some (.cells #[.int .i64 0, .int .i64 0, .slice none 0 0] 45 (0, 0)) := by
    rw [hb.block _ (by simp; omega)]; exact alloc2_first w _ _
  have k2 : ws.heap[w.heap.size + 1]? = some (.cells #[.int .i64 f, .int .i64 t, .slice av bs.length capv] 45 (0, 0)) := by
    rw [hb.block _ (by simp)]; exact alloc2_second w _ _
  have hbw : Below w.heap.size w ws := (hb0.alloc (by simp) _).trans (hb.mono (by simp; omega))
  have c1s : ws.cell? ⟨g, 1, none⟩ = some (.slice (some ⟨b, 0, none⟩) L.length cap) := (hbw.cell (p := ⟨g, 1, none⟩) hgl).trans c1
  have D := Lib.hid (delete_any (own_later HP.out.1 hbw) (parC_one HP.out) hil hl)
  have K1 := Lib.hid k1
  have K2 := Lib.hid k2
  clear hb k1 k2 d0 d1 d2 c1 AP T
  go_wp2_with fail
  refine D.out.mono ?_
  rintro e w4 ⟨rfl, h4, hs4⟩
  have hbz := hbw.size
  have hz1 := block_lt K2.out
  have k1 : w4.heap[w.heap.size]? = _ := (hs4.block _ (by omega) (by omega)).trans K1.out
  have k2 : w4.heap[w.heap.size + 1]? = _ := (hs4.block _ (by omega) (by omega)).trans K2.out
  have gn : w4.heap[g]? = _ := ((hs4.block g (by omega) gb).trans (hbw.block g hgl)).trans H2.out
  have z4 : w4.cell? ⟨g, 1, none⟩ = some (.slice (some ⟨b, 0, none⟩) L.length cap) := cell_block gn
  have y4 : w4.frozen? ⟨g, 1, none⟩ = false := free_block gn
  obtain ⟨e1, e2, e3, e4, e5, e6⟩ := block3 k1
  obtain ⟨p1, p2, p3, _, _, _⟩ := block3 k2
  have H4 := Lib.hid h4
  have n1 : g ≠ w.heap.size := by omega
  have n2 : g ≠ w.heap.size + 1 := by omega
  clear h4 k1 k2 gn c1s D
  go_wp2_with fail
  refine bodyPost_ret (v := .tuple #[.agg #[.int .i64 f, .int .i64 t, .slice av bs.length capv], .int .i64 0]) (by simp [results, Try.results16, go_sem, e1, e2, e3]) rfl ⟨rfl, ?_⟩
  refine lost_close HN.out HP.out hil hbw H4.out hs4 ?_
  exact Spares.setAt (Spares.setAt (Spares.setAt (Spares.refl _ _) (Nat.le_refl _)) (Nat.le_refl _)) (Nat.le_refl _)
end Go.Proofs.Ytlhmfdklpjpnlaa
