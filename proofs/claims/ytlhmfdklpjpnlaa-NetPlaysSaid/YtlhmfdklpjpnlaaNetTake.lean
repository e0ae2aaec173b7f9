/- The walks of net.Lose and net.Take. -/
import Derived.Test.YtlhmfdklpjpnlaaNetDelete
namespace Go.Proofs.Ytlhmfdklpjpnlaa
open Go.RowKit
set_option linter.unusedVariables false

theorem parC_take (L : List Par) (i : Nat) : (L.flatMap parC).take (i * 3) = (L.take i).flatMap parC := by
  induction L generalizing i with
  | nil => simp
  | cons p L ih =>
    cases i with
    | zero => simp
    | succ i =>
      rw [List.take_succ_cons, List.flatMap_cons, List.flatMap_cons, ← ih i, show (i + 1) * 3 = (parC p).length + i * 3 by simp [parC]; omega, List.take_append, List.take_of_length_le (by omega), Nat.add_sub_cancel_left]
theorem parC_drop (L : List Par) (i : Nat) : (L.flatMap parC).drop (i * 3) = (L.drop i).flatMap parC := by
  induction L generalizing i with
  | nil => simp
  | cons p L ih =>
    cases i with
    | zero => simp
    | succ i =>
      rw [List.drop_succ_cons, List.flatMap_cons, ← ih i, show (i + 1) * 3 = (parC p).length + i * 3 by simp [parC]; omega, List.drop_append, List.drop_eq_nil_of_le (by omega), Nat.add_sub_cancel_left, List.nil_append]
/-- One parcel less. -/
def less (L : List Par) (i : Nat) : List Par := L.take i ++ L.drop (i + 1)
theorem less_cells (L : List Par) (i : Nat) : (L.flatMap parC).take (i * 3) ++ (L.flatMap parC).drop (i * 3 + 3) = (less L i).flatMap parC := by
  unfold less
  rw [parC_take, show i * 3 + 3 = (i + 1) * 3 by omega, parC_drop, List.flatMap_append]
theorem less_len {L : List Par} {i : Nat} (h : i < L.length) : (less L i).length = L.length - 1 := by unfold less; simp; omega

theorem parC_one {w : World} {base : Nat} {pa : Value} {L : List Par} (h : PRow w base pa L) : ∀ u ∈ L.flatMap parC, u.oneCell' = true := by
  intro u hu
  obtain ⟨p, hp, hu⟩ := List.mem_flatMap.1 hu
  simp only [parC, List.mem_cons, List.not_mem_nil, or_false] at hu
  rcases hu with rfl | rfl | rfl
  · rfl
  · rfl
  · exact own_one (h.2.1 p hp).1

/-- One parcel less on its way. -/
def Lost (w : World) (base g : Nat) (ps : List (Int × Int)) (pa : Value) (cut : Bool) (x y off : Int) (L : List Par) (i : Nat) (w' : World) : Prop :=
  ∃ pa', NetAt w' base g ps pa' cut x y off ∧ PRow w' base pa' (less L i) ∧ Spares (netS g pa) w w' ∧ pa'.ownBlock = pa.ownBlock

theorem lost_close {w ws w4 w' : World} {base g b cap i : Nat} {ps : List (Int × Int)} {cut : Bool} {x y off : Int} {L : List Par}
    (hn : NetAt w base g ps (.slice (some ⟨b, 0, none⟩) L.length cap) cut x y off) (hp : PRow w base (.slice (some ⟨b, 0, none⟩) L.length cap) L) (hi : i < L.length) (hb : Below w.heap.size w ws)
    (h4 : w4.ownsRow base 45 3 (.slice (some ⟨b, 0, none⟩) (L.length - 1) cap) (L.length - 1) ((L.flatMap parC).take (i * 3) ++ (L.flatMap parC).drop (i * 3 + 3))) (hs4 : Spares (· = b) ws w4)
    (hfin : Spares (fun k => w.heap.size ≤ k) (w4.setCell ⟨g, 1, none⟩ (.slice (some ⟨b, 0, none⟩) (L.length - 1) cap)) w') :
    Lost w base g ps (.slice (some ⟨b, 0, none⟩) L.length cap) cut x y off L i w' := by
  obtain ⟨n1, ⟨v, n2, n3⟩, n4⟩ := hn
  obtain ⟨_, cur, hcb⟩ := own_block hp.1 rfl
  have hgl := block_lt n2
  have hbl : b < w.heap.size := block_lt hcb
  have gb : g ≠ b := ne_type n2 hcb (by decide)
  have hs5 : Spares (netS g (.slice (some ⟨b, 0, none⟩) L.length cap)) w (w4.setCell ⟨g, 1, none⟩ (.slice (some ⟨b, 0, none⟩) (L.length - 1) cap)) :=
    ((hb.spares _).trans (hs4.mono fun k _ e => .inr (by rw [e]; rfl))).setAt (.inl rfl)
  have hsz5 : w.heap.size ≤ (w4.setCell ⟨g, 1, none⟩ (.slice (some ⟨b, 0, none⟩) (L.length - 1) cap)).heap.size := hs5.size
  have hs : Spares (netS g (.slice (some ⟨b, 0, none⟩) L.length cap)) w w' :=
    ⟨hfin.os.trans hs5.os, hfin.tape.trans hs5.tape, hfin.output.trans hs5.output, Nat.le_trans hs5.size hfin.size, fun k hk h => (hfin.block k (by omega) (by show ¬ w.heap.size ≤ k; omega)).trans (hs5.block k hk h)⟩
  have g4 : w4.heap[g]? = some (.cells #[v, .slice (some ⟨b, 0, none⟩) L.length cap, .bool cut, .complex .f64 (fl x) (fl y), .int .i64 off] 57 (0, 0)) := by
    rw [hs4.block g (Nat.lt_of_lt_of_le hgl hb.size) gb, hb.block g hgl]; exact n2
  have notS : ∀ {k : Nat} {cur : Array Value} {u : TypeId}, w.heap[k]? = some (.cells cur u (0, 0)) → u ≠ 57 → u ≠ 45 → ¬ netS g (.slice (some ⟨b, 0, none⟩) L.length cap) k := by
    rintro k cur u hk h1 h2 (rfl | e)
    · exact ne_type hk n2 h1 rfl
    · obtain ⟨_, cur', hc⟩ := own_block hp.1 e
      exact ne_type hk hc h2 rfl
  refine ⟨.slice (some ⟨b, 0, none⟩) (L.length - 1) cap, ⟨n1, ⟨v, ?_, own_spares n3 hs fun k hk => ?_⟩, n4⟩, ⟨?_, ?_, ?_⟩, hs, rfl⟩
  · rw [hfin.block g (by omega) (by show ¬ w.heap.size ≤ g; omega), block_setCell g4]; rfl
  · obtain ⟨_, cur, hc⟩ := own_block n3 hk
    exact notS hc (by decide) (by decide)
  · rw [less_len hi, ← less_cells]
    refine own_spares (own_spares (S := (· = g)) h4 ((Spares.refl (· = g) w4).set1) fun k hk e => ?_) hfin fun k hk => ?_
    · have : b = k := by simpa [Value.ownBlock] using hk
      exact gb (this.trans e).symm
    · have : b = k := by simpa [Value.ownBlock] using hk
      show ¬ w.heap.size ≤ k
      omega
  · intro p hp'
    have hm : p ∈ L := by
      unfold less at hp'
      rcases List.mem_append.1 hp' with h | h
      · exact List.mem_of_mem_take h
      · exact List.mem_of_mem_drop h
    refine ⟨own_spares (hp.2.1 p hm).1 hs fun k hk => ?_, (hp.2.1 p hm).2⟩
    obtain ⟨_, cur, hc⟩ := own_block (hp.2.1 p hm).1 hk
    exact notS hc (by decide) (by decide)
  · rw [less_len hi]; have := hp.2.2; omega

theorem lose_nil (i : Int) (w : World) : Calls Try.prog 19 #[.pointer none, .int .i64 i] w fun e w' => e = .returned (.int .i64 1) ∧ w = w' := by
  go_enter Try.func19, Try.ntmps19
  go_wp2_with fail
  refine (there_nil _ _).mono ?_
  rintro e w1 ⟨rfl, rfl⟩
  go_wp2_with fail
  go_ret
  exact ⟨rfl, rfl⟩
theorem lose_no {w : World} {base g : Nat} {ps : List (Int × Int)} {pa : Value} {cut : Bool} {x y off : Int} {L : List Par} (hn : NetAt w base g ps pa cut x y off) (hp : PRow w base pa L) (i : Int) (h : i < 0 ∨ (L.length : Int) ≤ i) :
    Calls Try.prog 19 #[.pointer (some ⟨g, 0, none⟩), .int .i64 i] w fun e w' => e = .returned (.int .i64 6) ∧ w = w' := by
  have T := Lib.hid (there_no hn (RowN.of_own hp.1).len hp.2.2 i h)
  clear h hn hp
  go_enter Try.func19, Try.ntmps19
  go_wp2_with fail
  refine T.out.mono ?_
  rintro e w1 ⟨rfl, rfl⟩
  go_wp2_with fail
  go_ret
  exact ⟨rfl, rfl⟩

set_option maxHeartbeats 1000000 in
theorem lose_yes {w : World} {base g : Nat} {ps : List (Int × Int)} {pa : Value} {cut : Bool} {x y off : Int} {L : List Par} (hn : NetAt w base g ps pa cut x y off) (hp : PRow w base pa L) {i : Nat} (hi : i < L.length) :
    Calls Try.prog 19 #[.pointer (some ⟨g, 0, none⟩), .int .i64 (i : Int)] w fun e w' => e = .returned (.int .i64 0) ∧ Lost w base g ps pa cut x y off L i w' := by
  have T := Lib.hid (there_yes hn (RowN.of_own hp.1).len hp.2.2 i hi)
  obtain ⟨b, cap, rfl, hbl, _⟩ := hp.at (List.getElem?_eq_getElem hi)
  have HN := Lib.hid hn
  have HP := Lib.hid hp
  have D := Lib.hid (delete_any hp.1 (parC_one hp) hi hp.2.2)
  obtain ⟨h1, ⟨u, h2, h3⟩, h4⟩ := hn
  obtain ⟨_, cur, hcb⟩ := own_block hp.1 rfl
  have gb : g ≠ b := ne_type h2 hcb (by decide)
  have c1 : w.cell? ⟨g, 1, none⟩ = some (.slice (some ⟨b, 0, none⟩) L.length cap) := by rw [cell_block h2]; rfl
  have f1 : w.frozen? ⟨g, 1, none⟩ = false := free_block h2
  have hl := hp.2.2
  have hgl := block_lt h2
  clear h2 h3 h4 hp hcb
  go_enter Try.func19, Try.ntmps19
  go_wp2_with fail
  refine T.out.mono ?_
  rintro e w1 ⟨rfl, rfl⟩
  go_wp2_with fail
  refine D.out.mono ?_
  rintro e w4 ⟨rfl, h4, hs4⟩
  have z4 : w4.cell? ⟨g, 1, none⟩ = some (.slice (some ⟨b, 0, none⟩) L.length cap) := (hs4.cell (p := ⟨g, 1, none⟩) hgl gb).trans c1
  have y4 : w4.frozen? ⟨g, 1, none⟩ = false := (World.frozen?_of_block (w := w) (hs4.block g hgl gb)).trans f1
  have H4 := Lib.hid h4
  clear h4 c1 f1
  go_wp2_with fail
  go_ret
  exact ⟨rfl, lost_close HN.out HP.out hi (Below.refl _ _) H4.out hs4 (Spares.refl _ _)⟩
end Go.Proofs.Ytlhmfdklpjpnlaa
