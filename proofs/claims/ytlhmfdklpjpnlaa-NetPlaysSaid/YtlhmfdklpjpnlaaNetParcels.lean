/- The walk of net.Parcels. -/
import Derived.Test.YtlhmfdklpjpnlaaNetTake2
import Derived.Laws.OwnMore
namespace Go.Proofs.Ytlhmfdklpjpnlaa
open Go.RowKit
set_option linter.unusedVariables false

/-- What a parcel says. -/
def dat (p : Par) : Int × Int × List UInt8 := (p.1, p.2.1, p.2.2.2)

theorem row_at {w : World} {base n : Nat} {v : Value} {M : List Par} (h : w.ownsRow base 45 3 v n (M.flatMap parC)) {i : Nat} {p : Par} (hi : M[i]? = some p) :
    ∃ b cap, v = .slice (some ⟨b, 0, none⟩) n cap ∧ base ≤ b ∧ b < w.heap.size ∧ w.cell? ⟨b, i * 3, none⟩ = some (.int .i64 p.1) ∧ w.cell? ⟨b, i * 3 + 1, none⟩ = some (.int .i64 p.2.1) ∧ w.cell? ⟨b, i * 3 + 2, none⟩ = some p.2.2.1 ∧ ∀ j, w.frozen? ⟨b, j, none⟩ = false := by
  have hl := (List.getElem?_eq_some_iff.1 hi).1
  have hn := h.1
  rw [parC_len] at hn
  obtain ⟨g, cap, e, hbg, hlt⟩ := h.form (by omega)
  subst e
  obtain ⟨_, cur, hc0⟩ := own_block h rfl
  obtain ⟨_, h2 | ⟨b, off, cap', e, _, _, hc⟩⟩ := RowN.of_own h
  · omega
  · injection e with e _ _; injection e with e; injection e with e1 e2 _
    subst e1 e2
    obtain ⟨g1, g2, g3⟩ := parC_get hi
    have := hc _ _ g1; have := hc _ _ g2; have := hc _ _ g3
    simp only [Nat.zero_add] at *
    exact ⟨g, cap, rfl, hbg, hlt, by assumption, by assumption, by assumption, fun j => free_block hc0⟩

theorem flat_set {M : List Par} {k : Nat} {p : Par} (hk : k < M.length) : ((((M.flatMap parC).set (k * 3) (.int .i64 p.1)).set (k * 3 + 1) (.int .i64 p.2.1)).set (k * 3 + 2) p.2.2.1) = (M.set k p).flatMap parC := by
  induction M generalizing k with
  | nil => simp at hk
  | cons q M ih =>
    cases k with
    | zero => rfl
    | succ k =>
      have := ih (k := k) (by simpa using hk)
      rw [List.set_cons_succ, List.flatMap_cons, List.flatMap_cons, ← this]
      have e : ∀ (j : Nat) (l : List Value) (u : Value), (parC q ++ l).set ((k + 1) * 3 + j) u = parC q ++ l.set (k * 3 + j) u := by
        intro j l u
        rw [List.set_append_right _ _ (by simp [parC]; omega)]
        congr 2
        simp [parC]; omega
      have e0 := e 0 (M.flatMap parC) (.int .i64 p.1)
      simp only [Nat.add_zero] at e0
      rw [e0, e 1, e 2]

/-- What holds of net.Parcels at the head of a round. -/
def PcRel (w : World) (L : List Par) (v : Value) (k : Nat) (wr : World) : Prop :=
  Below w.heap.size w wr ∧ ∃ M : List Par, wr.ownsRow w.heap.size 45 3 v L.length (M.flatMap parC) ∧ M.map dat = L.map dat ∧
    ∀ j p, M[j]? = some p → (j < k → wr.ownsRow w.heap.size 5 1 p.2.2.1 p.2.2.2.length (u8s p.2.2.2)) ∧ (k ≤ j → L[j]? = some p)

/-- The parcels told, in new memory. -/
def Told (w : World) (L : List Par) (e : Ending) (w' : World) : Prop :=
  Below w.heap.size w w' ∧ ∃ v M, e = .returned v ∧ PRow w' w.heap.size v M ∧ M.map dat = L.map dat

theorem PcRel.done {w wr : World} {base : Nat} {L : List Par} {pa v : Value} (h : PcRel w L v L.length wr) (hp : PRow w base pa L) : Told w L (.returned v) wr := by
  obtain ⟨h1, M, h2, h3, h4⟩ := h
  have hl : M.length = L.length := by have := congrArg List.length h3; simpa using this
  refine ⟨h1, v, M, rfl, ⟨by rw [hl]; exact h2, fun p hm => ?_, by rw [hl]; exact hp.2.2⟩, h3⟩
  obtain ⟨j, hj, rfl⟩ := List.getElem_of_mem hm
  refine ⟨(h4 j _ (List.getElem?_eq_getElem hj)).1 (by omega), ?_⟩
  have hd : (M.map dat)[j]? = (L.map dat)[j]? := by rw [h3]
  rw [List.getElem?_map, List.getElem?_map, List.getElem?_eq_getElem hj, List.getElem?_eq_getElem (by omega)] at hd
  simp only [Option.map_some] at hd
  injection hd with hd
  have hb : (M[j]).2.2.2 = (L[j]'(by omega)).2.2.2 := congrArg (fun x => x.2.2) hd
  rw [hb]
  exact (hp.2.1 _ (List.getElem_mem _)).2

theorem PcRel.next {w wr ws : World} {L : List Par} {b cap k : Nat} {f t : Int} {bq bv : Value} {bs : List UInt8} {o : Obj} (h : PcRel w L (.slice (some ⟨b, 0, none⟩) L.length cap) k wr) (hk : L[k]? = some (f, t, bq, bs))
    (hb : Below (wr.alloc o).heap.size (wr.alloc o) ws) (ho : ws.ownsRow (wr.alloc o).heap.size 5 1 bv bs.length (u8s bs)) :
    PcRel w L (.slice (some ⟨b, 0, none⟩) L.length cap) (k + 1) (((ws.setCell ⟨b, k * 3, none⟩ (.int .i64 f)).setCell ⟨b, k * 3 + 1, none⟩ (.int .i64 t)).setCell ⟨b, k * 3 + 2, none⟩ bv) := by
  obtain ⟨h1, M, h2, h3, h4⟩ := h
  have hl : M.length = L.length := by have := congrArg List.length h3; simpa using this
  have hkl := (List.getElem?_eq_some_iff.1 hk).1
  have hb' : Below wr.heap.size wr ws := ((Below.refl _ _).alloc (Nat.le_refl _) o).trans (hb.mono (by simp))
  have hbz := hb'.size
  obtain ⟨gb, cur, gc⟩ := own_block h2 rfl
  have hbl : b < wr.heap.size := block_lt gc
  have o1 := own_later h2 hb'
  have o2 := ((o1.stored (k * 3) (.int .i64 f)).1.stored (k * 3 + 1) (.int .i64 t)).1.stored (k * 3 + 2) bv |>.1
  have hset := flat_set (M := M) (k := k) (p := (f, t, bv, bs)) (by omega)
  have hsp : Spares (· = b) ws (((ws.setCell ⟨b, k * 3, none⟩ (.int .i64 f)).setCell ⟨b, k * 3 + 1, none⟩ (.int .i64 t)).setCell ⟨b, k * 3 + 2, none⟩ bv) := (((Spares.refl (· = b) ws).set1).set1).set1
  have gc' : ws.heap[b]? = some (.cells cur 45 (0, 0)) := (hb'.block b hbl).trans gc
  have nb : ∀ {base : Nat} {v : Value} {n : Nat} {xs : List Value}, ws.ownsRow base 5 1 v n xs → ∀ g, v.ownBlock = some g → ¬ g = b := by
    intro base v n xs hv g hg e
    obtain ⟨_, c2, hc2⟩ := own_block hv hg
    exact ne_type hc2 gc' (by decide) e
  refine ⟨?_, M.set k (f, t, bv, bs), ?_, ?_, ?_⟩
  · have hx := h1.trans (hb'.mono h1.size)
    exact hx.trans (hsp.below hx.size (fun j e => e ▸ gb))
  · rw [← hset]; exact o2
  · rw [List.map_set, h3]
    have : (L.map dat)[k]? = some (dat (f, t, bv, bs)) := by rw [List.getElem?_map, hk]; rfl
    obtain ⟨hx, hy⟩ := List.getElem?_eq_some_iff.1 this
    rw [← hy]; exact List.set_getElem_self hx
  · intro j p hj
    by_cases e : k = j
    · subst e
      rw [List.getElem?_set_self (by omega)] at hj
      injection hj with hj; subst hj
      refine ⟨fun _ => own_mono (own_spares ho hsp (nb ho)) (by have := h1.size; simp; omega), fun hx => absurd hx (by omega)⟩
    · rw [List.getElem?_set_ne e] at hj
      obtain ⟨q1, q2⟩ := h4 j p hj
      refine ⟨fun hlt => ?_, fun hle => q2 (by omega)⟩
      have := own_later (q1 (by omega)) hb'
      exact own_spares this hsp (nb this)

theorem parcels_nil (w : World) : Calls Try.prog 24 #[.pointer none] w fun e w' => e = .returned (.slice none 0 0) ∧ w = w' := by
  go_enter Try.func24, Try.ntmps24
  go_wp2_with fail
  go_ret
  exact ⟨rfl, rfl⟩

set_option maxHeartbeats 2000000 in
theorem parcels_any {w : World} {base g : Nat} {ps : List (Int × Int)} {pa : Value} {cut : Bool} {x y off : Int} {L : List Par} (hn : NetAt w base g ps pa cut x y off) (hp : PRow w base pa L) :
    Calls Try.prog 24 #[.pointer (some ⟨g, 0, none⟩)] w (Told w L) := by
  have HP := Lib.hid hp
  have hl60 := hp.2.2
  have CL := Lib.hid (cloneP (RowN.of_own hp.1) (parC_one hp) (by omega))
  obtain ⟨h1, ⟨u, h2, h3⟩, h4⟩ := hn
  obtain ⟨a', cap', rfl⟩ := (RowN.of_own hp.1).len
  have c1 : w.cell? ⟨g, 1, none⟩ = some (.slice a' L.length cap') := by rw [cell_block h2]; rfl
  clear h2 h3 h4 hp
  go_enter Try.func24, Try.ntmps24
  go_wp2_with fail
  refine CL.out.mono ?_
  rintro e w2 ⟨v, rfl, ho, hb⟩
  have HR : Hid (PcRel w L v 0 w2) := ⟨hb, L, ho, rfl, fun j p hj => ⟨fun h => absurd h (by omega), fun _ => hj⟩⟩
  obtain ⟨a, cap, rfl⟩ := (RowN.of_own ho).len
  clear ho hb c1
  go_wp2_with fail
  go_loopw [15] (fun i wr => ∃ k : Nat, k ≤ L.length ∧ i = .int .i64 (k : Int) ∧ PcRel w L (.slice a L.length cap) k wr) (fun i _ => L.length - (intOf i).toNat)
  case atStart => exact ⟨0, by omega, rfl, HR.out⟩
  case round =>
    obtain ⟨k, hk, rfl, hr⟩ := hrel
    have HR1 := Lib.hid hr
    clear HR hr
    by_cases hlt : k < L.length
    · have hlt' : (k : Int) < L.length := by omega
      have k0 : (0 : Int) ≤ k := by omega
      obtain ⟨⟨f, t, bq, bs⟩, hLk⟩ : ∃ p, L[k]? = some p := ⟨_, List.getElem?_eq_getElem hlt⟩
      have HK := Lib.hid hLk
      obtain ⟨hbw, M, m2, m3, m4⟩ := HR1.out
      have hml : M.length = L.length := by have := congrArg List.length m3; simpa using this
      obtain ⟨p, hMk⟩ : ∃ p, M[k]? = some p := ⟨_, List.getElem?_eq_getElem (by omega)⟩
      have hpe := (m4 k p hMk).2 (Nat.le_refl _)
      rw [hLk] at hpe
      injection hpe with hpe
      subst hpe
      obtain ⟨b, cap1, e, hbb, hbl, d0, d1, d2, dz⟩ := row_at m2 hMk
      injection e with e _ e3
      subst e e3
      obtain ⟨ho, hbs⟩ := HP.out.2.1 _ (List.mem_of_getElem? hLk)
      simp only at ho hbs d0 d1 d2
      obtain ⟨av, capv, e⟩ := (RowN.of_own ho).len
      subst e
      have z0 := dz (k * 3)
      have z1 := dz (k * 3 + 1)
      have z2 := dz (k * 3 + 2)
      have OW := Lib.hid (fun (W : World) (h : RowN 1 W (.slice av bs.length capv) bs.length (u8s bs)) => own_any f t h (by omega))
      have HV := Lib.hid ((RowN.of_own ho).later hbw)
      clear m2 m3 m4 hml hMk ho dz hLk
      go_wp2_with fail
      refine (OW.out _ (HV.out.later ((Below.refl _ _).alloc (Nat.le_refl _) _))).mono ?_
      rintro e ws ⟨bv, rfl, ho5, hb5⟩
      have hb5' : Below wr.heap.size wr ws := ((Below.refl _ _).alloc (Nat.le_refl _) _).trans (hb5.mono (by simp))
      have e0 : ws.cell? ⟨b, k * 3, none⟩ = some (.int .i64 f) := (hb5'.cell (p := ⟨b, k * 3, none⟩) hbl).trans d0
      have e1 : ws.cell? ⟨b, k * 3 + 1, none⟩ = some (.int .i64 t) := (hb5'.cell (p := ⟨b, k * 3 + 1, none⟩) hbl).trans d1
      have e2 : ws.cell? ⟨b, k * 3 + 2, none⟩ = some (.slice av bs.length capv) := (hb5'.cell (p := ⟨b, k * 3 + 2, none⟩) hbl).trans d2
      have y0 : ws.frozen? ⟨b, k * 3, none⟩ = false := (hb5'.frozen (p := ⟨b, k * 3, none⟩) hbl).trans z0
      have y1 : ws.frozen? ⟨b, k * 3 + 1, none⟩ = false := (hb5'.frozen (p := ⟨b, k * 3 + 1, none⟩) hbl).trans z1
      have y2 : ws.frozen? ⟨b, k * 3 + 2, none⟩ = false := (hb5'.frozen (p := ⟨b, k * 3 + 2, none⟩) hbl).trans z2
      have HNX := Lib.hid (HR1.out.next HK.out hb5 ho5)
      obtain ⟨a5, cap5, rfl⟩ := (RowN.of_own ho5).len
      clear d0 d1 d2 z0 z1 z2 hb5 hb5' ho5
      go_wp2_with fail
      go_roundw
      case rel => exact ⟨k + 1, by omega, by go_num, HNX.out⟩
      case measure => simp [intOf]; omega
    · have hlt' : ¬ (k : Int) < L.length := by omega
      obtain rfl : k = L.length := by omega
      go_wp2_with fail
      go_ret
      exact HR1.out.done HP.out
end Go.Proofs.Ytlhmfdklpjpnlaa
