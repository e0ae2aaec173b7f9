/- The walks of net.own and net.there; parcels in memory. -/
import Derived.Test.YtlhmfdklpjpnlaaNetClone
import Derived.Outline
namespace Go.Proofs.Ytlhmfdklpjpnlaa
open Go.RowKit
set_option linter.unusedVariables false

/-- Bytes as cells. -/
def u8s (l : List UInt8) : List Value := l.map fun b => .int .u8 (b.toNat : Int)
theorem u8s_one (l : List UInt8) : ∀ u ∈ u8s l, u.oneCell' = true := by
  intro u hu
  obtain ⟨z, _, rfl⟩ := List.mem_map.1 hu
  rfl
theorem u8s_len (l : List UInt8) : (u8s l).length = l.length := by simp [u8s]

theorem block3 {w : World} {g : Nat} {a b c : Value} {t : TypeId} (h : w.heap[g]? = some (.cells #[a, b, c] t (0, 0))) :
    w.cell? ⟨g, 0, none⟩ = some a ∧ w.cell? ⟨g, 1, none⟩ = some b ∧ w.cell? ⟨g, 2, none⟩ = some c ∧ w.frozen? ⟨g, 0, none⟩ = false ∧ w.frozen? ⟨g, 1, none⟩ = false ∧ w.frozen? ⟨g, 2, none⟩ = false :=
  ⟨by rw [cell_block h]; rfl, by rw [cell_block h]; rfl, by rw [cell_block h]; rfl, free_block h, free_block h, free_block h⟩

/-- The same parcel, its bytes in new memory. -/
def OwnPost (f t : Int) (bs : List UInt8) (w : World) (e : Ending) (w' : World) : Prop :=
  ∃ v', e = .returned (.agg #[.int .i64 f, .int .i64 t, v']) ∧ w'.ownsRow w.heap.size 5 1 v' bs.length (u8s bs) ∧ Below w.heap.size w w'

set_option maxHeartbeats 1000000 in
theorem own_any (f t : Int) {v : Value} {bs : List UInt8} {w : World} (h : RowN 1 w v bs.length (u8s bs)) (hn : bs.length ≤ 140737488355328) :
    Calls Try.prog 30 #[.agg #[.int .i64 f, .int .i64 t, v]] w (OwnPost f t bs w) := by
  obtain ⟨a, cap, rfl⟩ := h.len
  go_enter Try.func30, Try.ntmps30
  go_wp2_with fail
  refine (clone8 (h.later (((Below.refl _ _).alloc (Nat.le_refl _) _).alloc (by simp) _)) (u8s_one bs) (by omega)).mono ?_
  rintro e w3 ⟨v', rfl, ho, hb⟩
  have g1 : w3.heap[w.heap.size]? = some (.cells #[.int .i64 f, .int .i64 t, .slice a bs.length cap] 45 (0, 0)) := by
    rw [hb.block _ (by simp; omega)]; exact alloc2_first w _ _
  have g2 : w3.heap[w.heap.size + 1]? = some (.cells #[.int .i64 0, .int .i64 0, .slice none 0 0] 45 (0, 0)) := by
    rw [hb.block _ (by simp)]; exact alloc2_second w _ _
  have hsz := hb.size
  simp only [World.size_alloc] at hsz
  obtain ⟨k1, k2, k3, k4, k5, k6⟩ := block3 g1
  obtain ⟨l1, l2, l3, l4, l5, l6⟩ := block3 g2
  have HO := Lib.hid ho
  have HB := Lib.hid hb
  obtain ⟨a', cap', rfl⟩ := (RowN.of_own ho).len
  clear g1 g2 ho hb h
  go_wp2_with fail
  refine bodyPost_ret (v := .agg #[.int .i64 f, .int .i64 t, .slice a' bs.length cap']) (by simp [results, Try.results30, go_sem, l1, l2, l3]) rfl ⟨_, rfl, ?_, ?_⟩
  · refine own_mono (base := w.heap.size + 2) (own_spares (S := fun k => k < w.heap.size + 2) (by have := HO.out; simpa using this) ?_ fun k hk => ?_) (by omega)
    · exact ((((Spares.refl _ w3).setAt (by simp)).setAt (by simp)).setAt (by simp)).setAt (by simp)
    · have := (own_block HO.out hk).1
      simp at this; omega
  · have hx : Below w.heap.size w w3 := ((((Below.refl _ _).alloc (Nat.le_refl _) _).alloc (by simp) _).trans (HB.out.mono (by simp; omega)))
    refine hx.trans (Spares.below (S := fun k => w.heap.size ≤ k) ?_ hx.size (fun k h => h))
    exact ((((Spares.refl _ w3).setAt (by simp)).setAt (by simp)).setAt (by simp)).setAt (by simp)
end Go.Proofs.Ytlhmfdklpjpnlaa
