/- The walk of the laws' example. -/
import Derived.Test.YtlhmfdklpjpnlaaNetNew
namespace Go.Proofs.Ytlhmfdklpjpnlaa
open Go.RowKit Punnet.Flt
set_option linter.unusedVariables false

theorem apart_is {w : World} {base g : Nat} {ps : List (Int × Int)} {pa : Value} {cut : Bool} {x y off a b : Int} {v : Bool} (hn : NetAt w base g ps pa cut x y off) (h : apartB ps cut x y off a b = v) :
    Calls Try.prog 10 #[.pointer (some ⟨g, 0, none⟩), .int .i64 a, .int .i64 b] w fun e w' => e = .returned (.bool v) ∧ Below w.heap.size w w' := by
  subst h; exact apart_any hn a b

theorem row_new {w : World} {cs : Array Value} {t : TypeId} {l : List Value} {n c g : Nat} (hl : cs.toList = l) (h : 0 < l.length) (hn : n = l.length) (hg : w.heap.size = g) : RowAt (w.alloc (.cells cs t)) (.slice (some ⟨g, 0, none⟩) n c) l := by
  subst hl hn hg
  refine .inr ⟨w.heap.size, 0, c, rfl, h, by simp, fun j hj => ?_⟩
  rw [cell_block (heap_alloc_new w _), Nat.zero_add]; simp
theorem row_new2 {w : World} {cs : Array Value} {t : TypeId} {o : Obj} {l : List Value} {n c g : Nat} (hl : cs.toList = l) (h : 0 < l.length) (hn : n = l.length) (hg : w.heap.size = g) : RowAt ((w.alloc (.cells cs t)).alloc o) (.slice (some ⟨g, 0, none⟩) n c) l :=
  (row_new hl h hn hg).later ((Below.refl _ _).alloc (Nat.le_refl _) _)

set_option maxHeartbeats 1000000 in
theorem netAwake_any (w : World) : Calls Try.prog 7 #[] w fun e w' => e = .returned (.bool true) ∧ Below w.heap.size w w' := by
  have N := fun (w : World) (v1 v2 : Value) h1 h2 => new_any (rs := [1, -1, 0]) (is := [0, 0, 1]) (v1 := v1) (v2 := v2) (w := w) h1 h2 (by decide) (by decide)
  have e0 : newB [1, -1, 0] [0, 0, 1] = true := by decide
  have HE := Lib.hid e0
  have A1 := Lib.hid (show apartB [(1, 0), (-1, 0), (0, 1)] true 1 0 0 1 2 = true by decide)
  have A2 := Lib.hid (show apartB [(1, 0), (-1, 0), (0, 1)] true 1 0 0 2 3 = true by decide)
  have A3 := Lib.hid (show apartB [(1, 0), (-1, 0), (0, 1)] true 1 0 0 1 3 = true by decide)
  have A4 := Lib.hid (show apartB [(1, 0), (-1, 0), (0, 1)] true 1 0 0 1 1 = false by decide)
  have HN := Lib.hid N
  clear e0 N
  go_enter Try.func7, Try.ntmps7
  go_wp2_with fail
  refine (HN.out _ _ _ (row_new2 (l := i64s [1, -1, 0]) rfl (by decide) rfl rfl) (row_new (l := i64s [0, 0, 1]) rfl (by decide) rfl (by simp))).mono ?_
  rintro e w2 ⟨hb2, ⟨hx, _⟩ | ⟨_, g, rfl, hg, N2⟩⟩
  · rw [HE.out] at hx; cases hx
  have B2 : Below w.heap.size w w2 := ((((Below.refl _ _).alloc (Nat.le_refl _) _).alloc (by simp) _).trans (hb2.mono (by simp; omega)))
  have hgw : w.heap.size ≤ g := by simp at hg; omega
  clear hb2 hg
  rw [show places [1, -1, 0] [0, 0, 1] = [(1, 0), (-1, 0), (0, 1)] from rfl] at N2
  go_wp2_with fail
  refine (cut_yes (show smallB 1 0 = true by decide) N2 0 (by omega)).mono ?_
  rintro e w3 ⟨rfl, N3, hs3⟩
  have B3 := B2.trans (hs3.below B2.size (fun j e => e ▸ hgw))
  go_wp2_with fail
  refine (apart_is N3 A1.out).mono ?_
  rintro e w4 ⟨rfl, hb4⟩
  have B4 := B3.trans (hb4.mono B3.size)
  have N4 := N3.later hb4
  go_wp2_with fail
  refine (apart_is N4 A2.out).mono ?_
  rintro e w5 ⟨rfl, hb5⟩
  have B5 := B4.trans (hb5.mono B4.size)
  have N5 := N4.later hb5
  go_wp2_with fail
  refine (apart_is N5 A3.out).mono ?_
  rintro e w6 ⟨rfl, hb6⟩
  have B6 := B5.trans (hb6.mono B5.size)
  have N6 := N5.later hb6
  go_wp2_with fail
  refine (apart_is N6 A4.out).mono ?_
  rintro e w7 ⟨rfl, hb7⟩
  have B7 := B6.trans (hb7.mono B6.size)
  go_wp2_with fail
  go_ret
  exact ⟨rfl, B7⟩
end Go.Proofs.Ytlhmfdklpjpnlaa
