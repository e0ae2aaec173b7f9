/- The walk of net.New. -/
import Derived.Test.YtlhmfdklpjpnlaaNetApart
import Derived.Maps.AppendAt
import Derived.Deep.AppendLies
namespace Go.Proofs.Ytlhmfdklpjpnlaa
open Go.RowKit Punnet.Flt
set_option linter.unusedVariables false
attribute [local go_sem] store_complex

theorem fl_zero : fl 0 = 0 := by decide +kernel
/-- The places of two rows. -/
def places (rs is : List Int) : List (Int × Int) := rs.zip is
/-- May a net be made of them? -/
def newB (rs is : List Int) : Bool := decide (rs.length = is.length ∧ 1 ≤ rs.length ∧ rs.length ≤ 6) && (places rs is).all fun p => smallB p.1 p.2
def i64s (l : List Int) : List Value := l.map (Value.int .i64)
theorem i64s_len (l : List Int) : (i64s l).length = l.length := by simp [i64s]
theorem i64s_get (l : List Int) (k : Nat) (h : k < (i64s l).length) : (i64s l)[k] = .int .i64 (l[k]'(by simpa [i64s] using h)) := by simp [i64s]
theorem places_get {rs is : List Int} (hl : rs.length = is.length) {k : Nat} (hk : k < rs.length) : (places rs is)[k]? = some (rs[k], is[k]) := by
  unfold places; simp [List.getElem?_zip_eq_some, hk]
theorem places_len {rs is : List Int} (hl : rs.length = is.length) : (places rs is).length = rs.length := by unfold places; simp [hl]

/-- What net.New leaves. -/
def NewPost (w : World) (rs is : List Int) (e : Ending) (w' : World) : Prop :=
  Below w.heap.size w w' ∧ ((newB rs is = false ∧ e = .returned (.tuple #[.pointer none, .int .i64 2])) ∨
    (newB rs is = true ∧ ∃ g, e = .returned (.tuple #[.pointer (some ⟨g, 0, none⟩), .int .i64 0]) ∧ w.heap.size ≤ g ∧ NetAt w' w.heap.size g (places rs is) (.slice none 0 0) false 0 0 0))

/-- What holds of net.New at the head of a round. -/
def NewRel (w : World) (rs is : List Int) (g k : Nat) (w' : World) : Prop :=
  w.heap.size ≤ g ∧ Below w.heap.size w w' ∧ (∀ p ∈ (places rs is).take k, smallB p.1 p.2 = true) ∧
    ∃ v, w'.heap[g]? = some (.cells #[v, .slice none 0 0, .bool false, .complex .f64 0 0, .int .i64 0] 57 (0, 0)) ∧ w'.ownsRow w.heap.size 39 1 v k (((places rs is).take k).map cpx)

theorem cpx_info : (Try.prog.info? 39).map (fun i => (i.zero, i.size, i.bytes)) = some (some (.complex .f64 0 0), 1, 16) := by kernel_rfl

theorem NewRel.next {w w1 w2 w3 : World} {rs is : List Int} {g k : Nat} (h : NewRel w rs is g k w1) (hb : Below w1.heap.size w1 w2) : NewRel w rs is g k w2 := by
  obtain ⟨h1, h2, h3, v, h4, h5⟩ := h
  exact ⟨h1, h2.trans (hb.mono h2.size), h3, v, (hb.block g (block_lt h4)).trans h4, own_later h5 hb⟩

theorem NewRel.step {w ws w4 : World} {rs is : List Int} {g k gg cap : Nat} {r m : Int} {fr fm : Nat} {v : Value} {o : Obj}
    (h : w.heap.size ≤ g ∧ Below w.heap.size w ws ∧ (∀ p ∈ (places rs is).take k, smallB p.1 p.2 = true) ∧
      ∃ v, ws.heap[g]? = some (.cells #[v, .slice none 0 0, .bool false, .complex .f64 0 0, .int .i64 0] 57 (0, 0)) ∧ ws.ownsRow w.heap.size 39 1 v k (((places rs is).take k).map cpx))
    (hp : (places rs is)[k]? = some (r, m)) (hs : smallB r m = true) (hr : fl r = fr) (hm : fl m = fm) (hown : ∀ v', ws.heap[g]? = some (.cells #[v', .slice none 0 0, .bool false, .complex .f64 0 0, .int .i64 0] 57 (0, 0)) → v' = v)
    (ho : w4.ownsRow w.heap.size 39 1 (.slice (some ⟨gg, 0, none⟩) (k + 1) cap) (k + 1) (((places rs is).take k).map cpx ++ [.complex .f64 fr fm])) (hg : (ws.alloc o).grownBy w4 v.ownBlock)
    (h4 : w4.heap[g]? = some (.cells #[v, .slice none 0 0, .bool false, .complex .f64 0 0, .int .i64 0] 57 (0, 0))) :
    NewRel w rs is g (k + 1) (w4.setCell ⟨g, 0, none⟩ (.slice (some ⟨gg, 0, none⟩) (k + 1) cap)) := by
  obtain ⟨h1, h2, h3, v', h5, h6⟩ := h
  obtain rfl := hown v' h5
  have hsz := h2.size
  have hb4 : Below w.heap.size w w4 := h2.trans (below_append h6 ((Below.refl _ _).alloc h2.size _) (by simp; omega) hg)
  have hk : k < (places rs is).length := (List.getElem?_eq_some_iff.1 hp).1
  have ht : (places rs is).take (k + 1) = (places rs is).take k ++ [(r, m)] := by
    rw [List.take_succ_eq_append_getElem hk]
    rw [List.getElem?_eq_getElem hk] at hp; injection hp with hp; rw [hp]
  refine ⟨h1, ?_, ?_, .slice (some ⟨gg, 0, none⟩) (k + 1) cap, by rw [block_setCell h4]; rfl, ?_⟩
  · exact hb4.trans (((Spares.refl (· = g) w4).set1).below hb4.size (fun k e => e ▸ h1))
  · intro p hp'
    rw [ht, List.mem_append] at hp'
    rcases hp' with hp' | hp'
    · exact h3 p hp'
    · rw [List.mem_singleton] at hp'; subst hp'; exact hs
  · rw [ht, List.map_append]
    refine own_spares (S := (· = g)) ?_ ((Spares.refl (· = g) w4).set1) fun x hx e => ?_
    · subst hr hm; exact ho
    · obtain ⟨_, cur, hc⟩ := own_block ho hx
      rw [e, h4] at hc
      injection hc with hc; injection hc with _ hc _; exact absurd hc (by decide)

theorem NewRel.done {w w1 : World} {rs is : List Int} (h : NewRel w rs is w.heap.size rs.length w1) (hl : rs.length = is.length) (h1 : 1 ≤ rs.length) (h6 : rs.length ≤ 6) :
    NewPost w rs is (.returned (.tuple #[.pointer (some ⟨w.heap.size, 0, none⟩), .int .i64 0])) w1 := by
  obtain ⟨g1, g2, g3, v, g4, g5⟩ := h
  have hpl := places_len hl
  have ht : (places rs is).take rs.length = places rs is := List.take_of_length_le (by omega)
  rw [ht] at g3 g5
  refine ⟨g2, .inr ⟨?_, w.heap.size, rfl, Nat.le_refl _, Nat.le_refl _, ⟨v, by rw [fl_zero]; exact g4, by rw [hpl]; exact g5⟩, by omega, g3, by decide, by omega⟩⟩
  unfold newB
  rw [Bool.and_eq_true, decide_eq_true_iff, List.all_eq_true]
  exact ⟨⟨hl, h1, h6⟩, g3⟩

theorem new_arg {rs is : List Int} {v1 v2 : Value} {w : World} (h1 : RowAt w v1 (i64s rs)) (h2 : RowAt w v2 (i64s is)) (hl1 : rs.length ≤ 9223372036854775807) (hl2 : is.length ≤ 9223372036854775807) (h : ¬ (rs.length = is.length ∧ 1 ≤ rs.length ∧ rs.length ≤ 6)) :
    Calls Try.prog 8 #[v1, v2] w (NewPost w rs is) := by
  obtain ⟨a1, c1, rfl⟩ := h1.len
  obtain ⟨a2, c2, rfl⟩ := h2.len
  clear h1 h2
  rw [i64s_len, i64s_len]
  have HV := Lib.hid (show newB rs is = false by unfold newB; rw [decide_eq_false h]; rfl)
  have key : (((rs.length : Int) != (is.length : Int)) = true) ∨ (((rs.length : Int) != (is.length : Int)) = false ∧ (rs.length : Int) < 1) ∨ (((rs.length : Int) != (is.length : Int)) = false ∧ ¬ (rs.length : Int) < 1 ∧ (6 : Int) < rs.length) := by
    by_cases e : rs.length = is.length
    · right
      have e' : ((rs.length : Int) != (is.length : Int)) = false := bne_eq_false_iff_eq.2 (by omega)
      by_cases e2 : rs.length < 1
      · exact .inl ⟨e', by omega⟩
      · exact .inr ⟨e', by omega, by omega⟩
    · exact .inl (bne_iff_ne.2 (by omega))
  clear h
  generalize rs.length = n1 at *
  generalize is.length = n2 at *
  rcases key with k1 | ⟨k1, k2⟩ | ⟨k1, k2, k3⟩
  all_goals
    go_enter Try.func8, Try.ntmps8
    go_wp2_with fail
    go_ret2
    exact ⟨Below.refl _ _, .inl ⟨HV.out, rfl⟩⟩

set_option maxHeartbeats 2000000 in
theorem new_go {rs is : List Int} {b1 o1 c1 b2 o2 c2 : Nat} {w : World} (hl : rs.length = is.length) (h1 : 1 ≤ rs.length) (h6 : rs.length ≤ 6) (hb1 : b1 < w.heap.size) (hb2 : b2 < w.heap.size)
    (hc1 : ∀ j (hj : j < rs.length), w.cell? ⟨b1, o1 + j, none⟩ = some (.int .i64 rs[j])) (hc2 : ∀ j (hj : j < is.length), w.cell? ⟨b2, o2 + j, none⟩ = some (.int .i64 is[j])) :
    Calls Try.prog 8 #[.slice (some ⟨b1, o1, none⟩) rs.length c1, .slice (some ⟨b2, o2, none⟩) is.length c2] w (NewPost w rs is) := by
  obtain ⟨i0, hi0, hz0, hz1, hz2⟩ := info_parts cpx_info
  have HL := Lib.hid hl
  have HC1 := Lib.hid hc1
  have HC2 := Lib.hid hc2
  have hnz : ((rs.length : Int) != (is.length : Int)) = false := bne_eq_false_iff_eq.2 (by omega)
  have hg0 : ¬ (rs.length : Int) < 1 := by omega
  have hg6 : ¬ (6 : Int) < rs.length := by omega
  have hl2 : is.length ≤ 6 := by omega
  clear hc1 hc2 hl
  go_enter Try.func8, Try.ntmps8
  go_wp2_with fail
  go_loopw [29] (fun i wr => ∃ k : Nat, k ≤ rs.length ∧ i = .int .i64 (k : Int) ∧ NewRel w rs is w.heap.size k wr) (fun i _ => rs.length - (intOf i).toNat)
  case atStart => exact ⟨0, by omega, rfl, Nat.le_refl _, (Below.refl _ _).alloc (Nat.le_refl _) _, fun p hp => by simp at hp, .slice none 0 0, heap_alloc_new w _, rfl, .inl ⟨rfl, rfl⟩⟩
  case round =>
    obtain ⟨k, hk, rfl, hr⟩ := hrel
    have HR := Lib.hid hr
    have hbw := hr.2.1
    clear hr
    by_cases hlt : k < rs.length
    · have hlt' : (k : Int) < rs.length := by omega
      have hlt2 : (k : Int) < is.length := by have := HL.out; omega
      have d1 : wr.cell? ⟨b1, o1 + k, none⟩ = some (.int .i64 rs[k]) := by rw [hbw.cell hb1]; exact HC1.out k hlt
      have d2 : wr.cell? ⟨b2, o2 + k, none⟩ = some (.int .i64 (is[k]'(by have := HL.out; omega))) := by rw [hbw.cell hb2]; exact HC2.out k _
      have HP := Lib.hid (places_get HL.out hlt)
      have HPL := Lib.hid (places_len HL.out)
      generalize rs[k] = r at *
      generalize is[k]'(by have := HL.out; omega) = m at *
      have k0 : (0 : Int) ≤ k := by omega
      cases hs : smallB r m with
      | true =>
        have SM := Lib.hid (netSmall_yes hs)
        have HS := Lib.hid hs
        clear hs
        generalize hfr : fl r = fr at *
        generalize hfm : fl m = fm at *
        have HFR := Lib.hid hfr
        have HFM := Lib.hid hfm
        clear hfr hfm
        go_wp2_with fail
        go_region_held3 (fun w' => w'.cell? ⟨b1, o1 + k, none⟩ = some (.int .i64 r) ∧ w'.cell? ⟨b2, o2 + k, none⟩ = some (.int .i64 m))
          (first
            | go_keep
            | (refine ⟨?_, ?_⟩ <;> (rw [hbs.cell (by simp; have := hbw.size; omega)]; assumption)))
          (first | (go_at_call 25; refine (SM.out _).mono ?_; rintro e ws ⟨rfl, hbs⟩))
        have hbs' : Below wr.heap.size wr ws := ⟨hbs.os, hbs.tape, hbs.output, hbs.size, hbs.block⟩
        obtain ⟨g1, g2, g3, v, g4, g5⟩ := HR.out.next (w3 := w) hbs'
        have e0 : ws.cell? ⟨w.heap.size, 0, none⟩ = some v := by rw [cell_block g4]; rfl
        have hgl := block_lt g4
        have G4 := Lib.hid g4
        have G5 := Lib.hid g5
        clear d1 d2 hbs hbs' g4 g5
        go_wp2_with (at_builtin; go_must (refine wpList_append_lies _ rfl (.tmp 50) (.tmp 52) _ rfl w.heap.size 39 i0 _ 1 16 Try.underlying36 hi0 hz0 hz1 hz2 rfl (by omega) v k (((places rs is).take k).map cpx) rfl (G5.out.alloc _) ⟨ws.heap.size, 0, none⟩ 1 1 [.complex .f64 fr fm] rfl rfl (cell_one_new _ _ _) (by simp [Value.oneCell']) (by omega) (by simp only [maxLen]; omega) (by omega) (by simp; omega) _ rfl ?_; intro gg cap w4 ho4 hg4 hat4 hlt4; have q4 := append_keeps G4.out G5.out (by decide) hg4; have z4 : w4.cell? ⟨w.heap.size, 0, none⟩ = some v := (cell_block q4); have y4 : w4.frozen? ⟨w.heap.size, 0, none⟩ = false := free_block q4; have Q4 := Lib.hid q4; clear q4))
        go_roundw
        case rel => exact ⟨k + 1, by omega, by go_num, NewRel.step ⟨g1, g2, g3, v, G4.out, G5.out⟩ HP.out HS.out HFR.out HFM.out (fun v' h => by rw [G4.out] at h; injection h with h; injection h with h _ _; injection h with h; injection h with h _; exact h.symm) ho4 hg4 Q4.out⟩
        case measure => simp [intOf]; omega
      | false =>
        have SM := Lib.hid (netSmall_no hs)
        have HV := Lib.hid (show newB rs is = false by
          unfold newB
          rw [Bool.and_eq_false_iff]
          right
          rw [Bool.eq_false_iff]
          intro ha
          have := List.all_eq_true.1 ha _ (List.mem_of_getElem? HP.out)
          rw [hs] at this; cases this)
        clear hs
        go_wp2_with fail
        go_region_held3 (fun w' => w'.cell? ⟨b1, o1 + k, none⟩ = some (.int .i64 r) ∧ w'.cell? ⟨b2, o2 + k, none⟩ = some (.int .i64 m))
          (first
            | go_keep
            | (refine ⟨?_, ?_⟩ <;> (rw [hbs.cell (by simp; have := hbw.size; omega)]; assumption)))
          (first | (go_at_call 25; refine (SM.out _).mono ?_; rintro e ws ⟨⟨x, y, rfl⟩, hbs⟩))
        have hbs' : Below wr.heap.size wr ws := ⟨hbs.os, hbs.tape, hbs.output, hbs.size, hbs.block⟩
        clear d1 d2 hbs
        go_wp2_with fail
        go_ret2
        exact ⟨hbw.trans (hbs'.mono hbw.size), .inl ⟨HV.out, rfl⟩⟩
    · have hlt' : ¬ (k : Int) < rs.length := by omega
      obtain rfl : k = rs.length := by omega
      go_wp2_with fail
      go_ret2
      exact NewRel.done HR.out HL.out h1 h6

theorem new_any {rs is : List Int} {v1 v2 : Value} {w : World} (h1 : RowAt w v1 (i64s rs)) (h2 : RowAt w v2 (i64s is)) (hl1 : rs.length ≤ 9223372036854775807) (hl2 : is.length ≤ 9223372036854775807) :
    Calls Try.prog 8 #[v1, v2] w (NewPost w rs is) := by
  by_cases h : rs.length = is.length ∧ 1 ≤ rs.length ∧ rs.length ≤ 6
  · obtain ⟨ha, hb, hc⟩ := h
    rcases h1 with ⟨h1, _⟩ | ⟨b1, o1, c1, rfl, _, p1, q1⟩
    · have := congrArg List.length h1; rw [i64s_len, List.length_nil] at this; omega
    rcases h2 with ⟨h2, _⟩ | ⟨b2, o2, c2, rfl, _, p2, q2⟩
    · have := congrArg List.length h2; rw [i64s_len, List.length_nil] at this; omega
    rw [i64s_len, i64s_len]
    refine new_go ha hb hc p1 p2 (fun j hj => ?_) (fun j hj => ?_)
    · rw [q1 j (by rw [i64s_len]; exact hj), i64s_get]
    · rw [q2 j (by rw [i64s_len]; exact hj), i64s_get]
  · exact new_arg h1 h2 hl1 hl2 h
end Go.Proofs.Ytlhmfdklpjpnlaa
