/- The walk of the law NetPlays. -/
import Derived.Test.YtlhmfdklpjpnlaaNetActs
import Derived.Outline
namespace Go.Proofs.Ytlhmfdklpjpnlaa
open Go.RowKit Punnet.Flt
set_option linter.unusedVariables false
attribute [local go_sem] store_complex

/-- What holds while the places that were told are looked at, and written over. -/
def PlRel (w3 : World) (vp : Value) (ps : List (Int × Int)) (k : Nat) (wr : World) : Prop :=
  Below w3.heap.size w3 wr ∧ ∃ cs : List Value, wr.ownsRow w3.heap.size 39 1 vp ps.length cs ∧ ∀ j, k ≤ j → cs[j]? = (ps.map cpx)[j]?
theorem PlRel.drewN {w3 wr : World} {vp : Value} {ps : List (Int × Int)} {k q : Nat} (h : PlRel w3 vp ps k wr) : PlRel w3 vp ps k (wr.drewN q) := by
  obtain ⟨h1, cs, h2, h3⟩ := h
  exact ⟨⟨h1.os, h1.tape, h1.output, h1.size, h1.block⟩, cs, own_later h2 ⟨rfl, rfl, rfl, Nat.le_refl _, fun _ _ => rfl⟩, h3⟩
theorem PlRel.set {w3 wr : World} {b cap k : Nat} {ps : List (Int × Int)} {u : Value} (h : PlRel w3 (.slice (some ⟨b, 0, none⟩) ps.length cap) ps k wr) : PlRel w3 (.slice (some ⟨b, 0, none⟩) ps.length cap) ps (k + 1) (wr.setCell ⟨b, k, none⟩ u) := by
  obtain ⟨h1, cs, h2, h3⟩ := h
  refine ⟨h1.trans (((Spares.refl (· = b) wr).set1).below h1.size (fun j e => e ▸ (own_block h2 rfl).1)), _, (h2.stored k u).1, fun j hj => ?_⟩
  rw [List.getElem?_set_ne (by omega)]; exact h3 j (by omega)
theorem PlRel.at {w3 wr : World} {vp : Value} {ps : List (Int × Int)} {k : Nat} (h : PlRel w3 vp ps k wr) (hk : k < ps.length) :
    ∃ b cap, vp = .slice (some ⟨b, 0, none⟩) ps.length cap ∧ wr.cell? ⟨b, k, none⟩ = some (cpx ps[k]) ∧ wr.frozen? ⟨b, k, none⟩ = false := by
  obtain ⟨h1, cs, h2, h3⟩ := h
  obtain ⟨g, cap, e, hbg, hlt⟩ := h2.form (by omega)
  subst e
  obtain ⟨_, cur, hc0⟩ := own_block h2 rfl
  obtain ⟨_, hx | ⟨b, off, cap', e, _, _, hc⟩⟩ := RowN.of_own h2
  · omega
  · injection e with e _ _; injection e with e; injection e with e1 e2 _
    subst e1 e2
    have h4 := h3 k (Nat.le_refl _)
    rw [List.getElem?_map, List.getElem?_eq_getElem hk] at h4
    have := hc k _ h4
    rw [Nat.zero_add] at this
    exact ⟨g, cap, rfl, this, free_block hc0⟩

set_option maxRecDepth 100000 in
set_option maxHeartbeats 16000000 in
theorem plays_go {b0 o0 c0 b1 o1 c1 : Nat} {rs is : List Int} {al : Option Addr} {n cl : Nat} {a b : Int} {w : World} (R0 : RowAt w (.slice (some ⟨b0, o0, none⟩) rs.length c0) (i64s rs)) (R1 : RowAt w (.slice (some ⟨b1, o1, none⟩) is.length c1) (i64s is))
    (hb0 : b0 < w.heap.size) (hb1 : b1 < w.heap.size) (hc0 : ∀ j (hj : j < rs.length), w.cell? ⟨b0, o0 + j, none⟩ = some (.int .i64 rs[j])) (hc1 : ∀ j (hj : j < is.length), w.cell? ⟨b1, o1 + j, none⟩ = some (.int .i64 is[j]))
    (hl0 : rs.length ≤ 100) (hl1 : is.length ≤ 100) (hn : n ≤ 200) (hnew : newB rs is = true) (hacts : n = 0 ∨ ∃ bl ol, al = some ⟨bl, ol, none⟩ ∧ bl < w.heap.size ∧ ∀ k < n, ActAt w bl ol k) :
    Calls Try.prog 5 #[.slice (some ⟨b0, o0, none⟩) rs.length c0, .slice (some ⟨b1, o1, none⟩) is.length c1, .slice al n cl, .int .i64 a, .int .i64 b] w fun e w' => e = .returned (.bool true) ∧ Below w.heap.size w w' := by
  obtain ⟨hl, hn1, hn6⟩ := of_decide_eq_true (Bool.and_eq_true .. ▸ hnew).1
  have hgood := List.all_eq_true.1 (Bool.and_eq_true .. ▸ hnew).2
  have HNEW := Lib.hid hnew
  have HL := Lib.hid hl
  have HPL := Lib.hid (places_len hl)
  have HC0 := Lib.hid hc0
  have HC1 := Lib.hid hc1
  have HACT := Lib.hid hacts
  have HG := Lib.hid hgood
  have t200 : ¬ (200 : Int) < n := by omega
  have t100 : ¬ (100 : Int) < rs.length := by omega
  have t101 : ¬ (100 : Int) < is.length := by omega
  have l0 : rs.length ≤ 9223372036854775807 := by omega
  have l1 : is.length ≤ 9223372036854775807 := by omega
  clear hnew hl hc0 hc1 hacts hgood
  go_enter Try.func5, Try.ntmps5
  go_wp2_with fail
  refine (netAwake_any _).mono ?_
  rintro e w1 ⟨rfl, hb1'⟩
  go_wp2_with fail
  refine (new_any (R0.later hb1') (R1.later hb1') l0 l1).mono ?_
  rintro e w2 ⟨hb2, ⟨hx, _⟩ | ⟨_, g, rfl, hg, N2⟩⟩
  · rw [HNEW.out] at hx; cases hx
  have B2 := below_two hb1' hb2
  have N2 := N2.lower hb1'.size
  clear hb1' hb2 hg
  go_wp2_with fail
  refine (refNew_any (R0.later B2) (R1.later B2) l0 l1).mono ?_
  rintro e w3 ⟨hb3, ⟨hx, _⟩ | ⟨_, gm, rfl, hgm, M3⟩⟩
  · rw [HNEW.out] at hx; cases hx
  have B3 := B2.trans (hb3.mono B2.size)
  have hJ3 : J w (.slice (some ⟨b0, o0, none⟩) rs.length c0) (.slice (some ⟨b1, o1, none⟩) is.length c1) rs is g gm w3 :=
    ⟨.slice none 0 0, .slice none 0 0, [], [], false, 0, 0, 0, 0, 0, 0, N2.later hb3, ⟨⟨rfl, .inl ⟨rfl, rfl⟩⟩, (fun p hp => by cases hp), by simp⟩,
      ⟨Nat.le_trans B2.size hgm, M3, ⟨rfl, .inl ⟨rfl, rfl⟩⟩, (fun p hp => by cases hp), by simp, B3, R0, R1, ⟨HL.out, hn6, HG.out⟩, by decide, by omega⟩, rfl, .inr ⟨rfl, rfl, rfl, rfl⟩, (fun k hk => by cases hk), (fun p hp => by cases hp)⟩
  have HJ3 := Lib.hid hJ3
  have PL := Lib.hid (netPlaces_any (N2.later hb3))
  clear hJ3 N2 M3 hb3 B2 hgm
  go_wp2_with fail
  refine PL.out.mono ?_
  rintro e w4 ⟨vp, rfl, hop, hb4⟩
  rw [HPL.out] at hop
  have HP : Hid (PlRel w3 vp (places rs is) 0 w4) := ⟨hb4, _, by rw [HPL.out]; exact hop, fun _ _ => rfl⟩
  obtain ⟨ap, cp, rfl⟩ := (RowN.of_own hop).len
  clear hop hb4 PL
  go_wp2_with fail
  go_loopw [16] (fun i wr => ∃ k : Nat, k ≤ rs.length ∧ i = .int .i64 (k : Int) ∧ PlRel w3 (.slice ap rs.length cp) (places rs is) k wr) (fun i _ => rs.length - (intOf i).toNat)
  case atStart => exact ⟨0, by omega, rfl, HP.out⟩
  case round =>
    obtain ⟨k, hk, rfl, hrel⟩ := hrel
    have HREL := Lib.hid hrel
    clear HP hrel
    by_cases hlt : k < rs.length
    · have hlt' : (k : Int) < rs.length := by omega
      have hlt2 : (k : Int) < is.length := by have := HL.out; omega
      have k0 : (0 : Int) ≤ k := by omega
      have hkp : k < (places rs is).length := by rw [HPL.out]; exact hlt
      obtain ⟨bp, cp', e, d0, d1⟩ := HREL.out.at hkp
      injection e with e q1 q2
      subst e q2
      clear q1
      have hpe : (places rs is)[k] = (rs[k], is[k]'(by have := HL.out; omega)) := by
        have := places_get HL.out hlt
        rw [List.getElem?_eq_getElem hkp] at this; injection this
      have hsm := smallB_true.1 (HG.out _ (List.getElem_mem hkp))
      rw [hpe] at d0 hsm
      simp only [cpx] at d0 hsm
      have B4 := B3.trans (HREL.out.1.mono B3.size)
      have e0 : wr.cell? ⟨b0, o0 + k, none⟩ = some (.int .i64 rs[k]) := (B4.cell (p := ⟨b0, o0 + k, none⟩) hb0).trans (HC0.out k hlt)
      have e1 : wr.cell? ⟨b1, o1 + k, none⟩ = some (.int .i64 (is[k]'(by have := HL.out; omega))) := (B4.cell (p := ⟨b1, o1 + k, none⟩) hb1).trans (HC1.out k _)
      generalize rs[k] = r at *
      generalize is[k]'(by have := HL.out; omega) = m at *
      have t1 := (isAt_fl r (M := 33554432) hsm.1 hsm.2.1 (by omega)).toInt
      have t2 := (isAt_fl m (M := 33554432) hsm.2.2.1 hsm.2.2.2 (by omega)).toInt
      have t1' : floatToIntVal .f64 (fl r) .i64 = some r := t1
      have t2' : floatToIntVal .f64 (fl m) .i64 = some m := t2
      generalize fl r = fr at *
      generalize fl m = fm at *
      have v1 := fun w => run_convert_float_int (P := Try.prog) w 38 2 .f64 .i64 fr r (by kernel_rfl) Try.underlying2 t1'
      have v2 := fun w => run_convert_float_int (P := Try.prog) w 38 2 .f64 .i64 fm m (by kernel_rfl) Try.underlying2 t2'
      have n0 : ((rs.length : Int) != (rs.length : Int)) = false := by simp
      have n1 : ((r : Int) != r) = false := by simp
      have n2 : ((m : Int) != m) = false := by simp
      have HSET : Hid (∀ (nq : Nat) (u : Value), PlRel w3 (.slice (some ⟨bp, 0, none⟩) rs.length cp) (places rs is) (k + 1) ((wr.drewN nq).setCell ⟨bp, k, none⟩ u)) := by
        intro nq u
        have h := HREL.out.drewN (q := nq)
        have e := HPL.out
        rw [← e] at h ⊢
        exact h.set
      clear hpe B4 t1 t2 t1' t2' HREL
      go_wp2_with fail
      go_quiet (fail)
      go_wp2_with fail
      go_roundw
      case rel => exact ⟨k + 1, by omega, by go_num, HSET.out _ _⟩
      case measure => simp [intOf]; omega
    · have hlt' : ¬ (k : Int) < rs.length := by omega
      obtain ⟨w5, rfl⟩ : ∃ w5 : World, w5 = wr := ⟨_, rfl⟩
      have HJ5 := Lib.hid (HJ3.out.later HREL.out.1)
      clear HREL HJ3
      go_wp2_with fail
      go_loopw [17] (fun i wr => ∃ k : Nat, k ≤ n ∧ i = .int .i64 (k : Int) ∧ J w (.slice (some ⟨b0, o0, none⟩) rs.length c0) (.slice (some ⟨b1, o1, none⟩) is.length c1) rs is g gm wr) (fun i _ => n - (intOf i).toNat)
      case atStart => exact ⟨0, by omega, rfl, HJ5.out⟩
      case round =>
        obtain ⟨q, hq, rfl, hj⟩ := hrel
        have HJ := Lib.hid hj
        clear HJ5 hj
        by_cases hqn : q < n
        · have hqn' : (q : Int) < n := by omega
          have q0 : (0 : Int) ≤ q := by omega
          rcases HACT.out with hx | ⟨bl, ol, rfl, hbl, hact⟩
          · omega
          obtain ⟨K, r, m, f, A, B, N, bv, bs, d0, d1, d2, d3, d4, d5, d6, d7, hrow, hbz, hfb⟩ := hact q hqn
          have B6 := HJ.out.below
          have D0 : wr.cell? ⟨bl, ol + q * 8, none⟩ = _ := (B6.cell (p := ⟨bl, ol + q * 8, none⟩) hbl).trans d0
          have D1 : wr.cell? ⟨bl, ol + q * 8 + 1, none⟩ = _ := (B6.cell (p := ⟨bl, ol + q * 8 + 1, none⟩) hbl).trans d1
          have D2 : wr.cell? ⟨bl, ol + q * 8 + 2, none⟩ = _ := (B6.cell (p := ⟨bl, ol + q * 8 + 2, none⟩) hbl).trans d2
          have D3 : wr.cell? ⟨bl, ol + q * 8 + 3, none⟩ = _ := (B6.cell (p := ⟨bl, ol + q * 8 + 3, none⟩) hbl).trans d3
          have D4 : wr.cell? ⟨bl, ol + q * 8 + 4, none⟩ = _ := (B6.cell (p := ⟨bl, ol + q * 8 + 4, none⟩) hbl).trans d4
          have D5 : wr.cell? ⟨bl, ol + q * 8 + 5, none⟩ = _ := (B6.cell (p := ⟨bl, ol + q * 8 + 5, none⟩) hbl).trans d5
          have D6 : wr.cell? ⟨bl, ol + q * 8 + 6, none⟩ = _ := (B6.cell (p := ⟨bl, ol + q * 8 + 6, none⟩) hbl).trans d6
          have D7 : wr.cell? ⟨bl, ol + q * 8 + 7, none⟩ = _ := (B6.cell (p := ⟨bl, ol + q * 8 + 7, none⟩) hbl).trans d7
          obtain ⟨av, cv, rfl⟩ := hrow.len
          have HROW := Lib.hid hrow
          clear d0 d1 d2 d3 d4 d5 d6 d7 hrow hact
          by_cases big : (100 < bs.length ∧ bs.length < 60000) ∨ 61000 < bs.length
          · rcases big with ⟨g1, g2⟩ | g1
            · have g1' : (100 : Int) < bs.length := by omega
              have g2' : (bs.length : Int) < 60000 := by omega
              go_wp2_with fail
              go_ret
              exact ⟨rfl, B6.alloc B6.size _⟩
            · have g1' : (100 : Int) < bs.length := by omega
              have g2' : ¬ (bs.length : Int) < 60000 := by omega
              have g3' : (61000 : Int) < bs.length := by omega
              go_wp2_with fail
              go_ret
              exact ⟨rfl, B6.alloc B6.size _⟩
          · have HB0 : Hid (Below wr.heap.size wr (wr.alloc (.cells #[.int .i64 K, .int .i64 r, .int .i64 m, .int .i64 f, .int .i64 A, .int .i64 B, .int .i64 N, .slice av bs.length cv] 42))) := (Below.refl _ _).alloc (Nat.le_refl _) _
            have GC0 : Hid ((wr.alloc (.cells #[.int .i64 K, .int .i64 r, .int .i64 m, .int .i64 f, .int .i64 A, .int .i64 B, .int .i64 N, .slice av bs.length cv] 42)).heap[wr.heap.size]? = some (.cells #[.int .i64 K, .int .i64 r, .int .i64 m, .int .i64 f, .int .i64 A, .int .i64 B, .int .i64 N, .slice av bs.length cv] 42 (0, 0))) := heap_alloc_new wr _
            have HJ0 := Lib.hid (HJ.out.later HB0.out)
            have hg3 : ¬ (61000 : Int) < bs.length := by omega
            have hsplit : ¬ (100 : Int) < bs.length ∨ ((100 : Int) < bs.length ∧ ¬ (bs.length : Int) < 60000) := by omega
            have hkind : K = 1 ∨ K = 2 ∨ K = 3 ∨ K = 4 ∨ K = 5 ∨ ((K == 1) = false ∧ (K == 2) = false ∧ (K == 3) = false ∧ (K == 4) = false ∧ (K == 5) = false) := by
              by_cases e1 : K = 1
              · exact .inl e1
              by_cases e2 : K = 2
              · exact .inr (.inl e2)
              by_cases e3 : K = 3
              · exact .inr (.inr (.inl e3))
              by_cases e4 : K = 4
              · exact .inr (.inr (.inr (.inl e4)))
              by_cases e5 : K = 5
              · exact .inr (.inr (.inr (.inr (.inl e5))))
              · exact .inr (.inr (.inr (.inr (.inr ⟨beq_eq_false_iff_ne.2 e1, beq_eq_false_iff_ne.2 e2, beq_eq_false_iff_ne.2 e3, beq_eq_false_iff_ne.2 e4, beq_eq_false_iff_ne.2 e5⟩))))
            clear big HJ
            (rcases hsplit with hs1 | ⟨hs1, hs2⟩) <;>
             (rcases hkind with rfl | rfl | rfl | rfl | rfl | ⟨e1, e2, e3, e4, e5⟩
              · as_aux_lemma =>
                go_wp2_with fail
                go_region_held3 (fun w' => w'.cell? ⟨wr.heap.size, 1, none⟩ = some (.int .i64 r) ∧ w'.cell? ⟨wr.heap.size, 2, none⟩ = some (.int .i64 m) ∧ w'.cell? ⟨wr.heap.size, 3, none⟩ = some (.int .i64 f))
                  (first
                    | go_keep
                    | (have h9 := block8 (hk1 _ _ GC0.out); exact ⟨h9.1, h9.2.1, h9.2.2.1⟩)
                    | (have h9 := block8 (hk2 _ _ (hk1 _ _ GC0.out)); exact ⟨h9.1, h9.2.1, h9.2.2.1⟩))
                  (first
                    | (go_at_call 9; refine (pairCut (HJ0.out.later (Below.refl _ _).drew) r m f hfb).mono ?_; rintro e ws ⟨c, rfl, hk1, hsec⟩; have HS := Lib.hid hsec; clear hsec)
                    | (go_at_call 13; refine HS.out.mono ?_; rintro e wt ⟨rfl, hj2, hk2⟩; have HJ2 := Lib.hid hj2; clear hj2))
                have nc : (c != c) = false := by simp
                obtain ⟨v, A1, A2⟩ := pairApart HJ2.out a b
                have nv : (v != v) = false := by cases v <;> rfl
                go_wp2_with fail
                refine A1.out.mono ?_
                rintro e wa ⟨rfl, hba⟩
                go_wp2_with fail
                refine (A2.out _ hba).mono ?_
                rintro e wb ⟨rfl, hbb⟩
                go_wp2_with fail
                go_roundw
                case rel => exact ⟨q + 1, by omega, by go_num, (HJ2.out.later hba).later hbb⟩
                case measure => simp [intOf]; omega
              · as_aux_lemma =>
                go_wp2_with fail
                go_region_held3 (fun w' => w'.cell? ⟨wr.heap.size, 4, none⟩ = some (.int .i64 A) ∧ w'.cell? ⟨wr.heap.size, 5, none⟩ = some (.int .i64 B) ∧ w'.cell? ⟨wr.heap.size, 7, none⟩ = some (.slice av bs.length cv))
                  (first
                    | go_keep
                    | (have h9 := block8 (hk1 _ _ GC0.out); exact ⟨h9.2.2.2.1, h9.2.2.2.2.1, h9.2.2.2.2.2.2⟩)
                    | (have h9 := block8 (hk2 _ _ (hk1 _ _ GC0.out)); exact ⟨h9.2.2.2.1, h9.2.2.2.2.1, h9.2.2.2.2.2.2⟩))
                  (first
                    | (go_at_call 14; refine (pairPost (HJ0.out.later (Below.refl _ _).drew) A B HROW.out hbz).mono ?_; rintro e ws ⟨c, rfl, hk1, hsec⟩; have HS := Lib.hid hsec; clear hsec)
                    | (go_at_call 15; refine HS.out.mono ?_; rintro e wt ⟨rfl, hj2, hk2⟩; have HJ2 := Lib.hid hj2; clear hj2))
                have nc : (c != c) = false := by simp
                obtain ⟨v, A1, A2⟩ := pairApart HJ2.out a b
                have nv : (v != v) = false := by cases v <;> rfl
                go_wp2_with fail
                refine A1.out.mono ?_
                rintro e wa ⟨rfl, hba⟩
                go_wp2_with fail
                refine (A2.out _ hba).mono ?_
                rintro e wb ⟨rfl, hbb⟩
                go_wp2_with fail
                go_roundw
                case rel => exact ⟨q + 1, by omega, by go_num, (HJ2.out.later hba).later hbb⟩
                case measure => simp [intOf]; omega
              · as_aux_lemma =>
                go_wp2_with fail
                refine (pairTake HJ0.out N).mono ?_
                rintro e ws ⟨fx, tx, c, bx, bz, nx, rfl, hlx, hox, hk1, ⟨csg, hgm⟩, hsec⟩
                obtain ⟨ax, cx, rfl⟩ := (RowN.of_own hox).len
                have HX := Lib.hid (fun wt => take_first (wt := wt) hox hgm hlx fx tx)
                have HS := Lib.hid (hsec (ws.alloc (.cells #[.int .i64 fx, .int .i64 tx, .slice ax bz.length cx] 45)) ((Below.refl _ _).alloc (Nat.le_refl _) _))
                have H8 := Lib.hid (((Below.refl _ _).alloc (Nat.le_refl _) (.cells #[.int .i64 fx, .int .i64 tx, .slice ax bz.length cx] 45) : Below ws.heap.size ws (ws.alloc (.cells #[.int .i64 fx, .int .i64 tx, .slice ax bz.length cx] 45))))
                have HCX := Lib.hid (hk1 _ _ GC0.out)
                have cN := (block8 HCX.out).2.2.2.2.2.1
                have hwl := block_lt HCX.out
                clear hox hgm hsec hk1
                go_wp2_with fail
                refine HS.out.mono ?_
                rintro e wt ⟨by2, rfl, hry, hj2, hk2, hsp⟩
                obtain ⟨ay, cy, rfl⟩ := hry.len
                obtain ⟨hx1, hx2⟩ := HX.out _ hsp
                have HJ2 := Lib.hid ((hj2.later (below_alloc _ (.cells #[.int .i64 fx, .int .i64 tx, .slice ay bz.length cy] 45))).later ((below_alloc _ (.cells #[.int .i64 fx, .int .i64 tx, .slice ax bz.length cx] 45)).trans ((below_alloc _ (.cells #[.int .i64 fx, .int .i64 tx, .slice ay bz.length cy] 45)).mono (by simp))))
                have HSAME := Lib.hid (same_taken (wt := wt) (T := 45) hlx fx tx hx2 hry)
                obtain ⟨x0, x1, x2, _, _, _⟩ := block3 hx1
                have hxl := block_lt hx1
                clear hj2 hk2 hsp hry hx1 hx2 cN
                go_wp2_with fail
                refine HSAME.out.mono ?_
                rintro e wv ⟨rfl, hbv⟩
                have HJ3 := Lib.hid (HJ2.out.later hbv)
                clear HJ2
                have HJ2 := HJ3
                have nc : (c != c) = false := by simp
                obtain ⟨v, A1, A2⟩ := pairApart HJ2.out a b
                have nv : (v != v) = false := by cases v <;> rfl
                go_wp2_with fail
                refine A1.out.mono ?_
                rintro e wa ⟨rfl, hba⟩
                go_wp2_with fail
                refine (A2.out _ hba).mono ?_
                rintro e wb ⟨rfl, hbb⟩
                go_wp2_with fail
                go_roundw
                case rel => exact ⟨q + 1, by omega, by go_num, (HJ2.out.later hba).later hbb⟩
                case measure => simp [intOf]; omega
              · as_aux_lemma =>
                go_wp2_with fail
                go_region_held3 (fun w' => w'.cell? ⟨wr.heap.size, 6, none⟩ = some (.int .i64 N))
                  (first
                    | go_keep
                    | (have h9 := block8 (hk1 _ _ GC0.out); exact h9.2.2.2.2.2.1)
                    | (have h9 := block8 (hk2 _ _ (hk1 _ _ GC0.out)); exact h9.2.2.2.2.2.1))
                  (first
                    | (go_at_call 19; refine (pairLose (HJ0.out.later (Below.refl _ _).drew) N).mono ?_; rintro e ws ⟨c, rfl, hk1, hsec⟩; have HS := Lib.hid hsec; clear hsec)
                    | (go_at_call 20; refine HS.out.mono ?_; rintro e wt ⟨rfl, hj2, hk2⟩; have HJ2 := Lib.hid hj2; clear hj2))
                have nc : (c != c) = false := by simp
                obtain ⟨v, A1, A2⟩ := pairApart HJ2.out a b
                have nv : (v != v) = false := by cases v <;> rfl
                go_wp2_with fail
                refine A1.out.mono ?_
                rintro e wa ⟨rfl, hba⟩
                go_wp2_with fail
                refine (A2.out _ hba).mono ?_
                rintro e wb ⟨rfl, hbb⟩
                go_wp2_with fail
                go_roundw
                case rel => exact ⟨q + 1, by omega, by go_num, (HJ2.out.later hba).later hbb⟩
                case measure => simp [intOf]; omega
              · as_aux_lemma =>
                go_wp2_with fail
                go_region_held3 (fun w' => w'.cell? ⟨wr.heap.size, 6, none⟩ = some (.int .i64 N))
                  (first
                    | go_keep
                    | (have h9 := block8 (hk1 _ _ GC0.out); exact h9.2.2.2.2.2.1)
                    | (have h9 := block8 (hk2 _ _ (hk1 _ _ GC0.out)); exact h9.2.2.2.2.2.1))
                  (first
                    | (go_at_call 21; refine (pairDouble (HJ0.out.later (Below.refl _ _).drew) N).mono ?_; rintro e ws ⟨c, rfl, hk1, hsec⟩; have HS := Lib.hid hsec; clear hsec)
                    | (go_at_call 22; refine HS.out.mono ?_; rintro e wt ⟨rfl, hj2, hk2⟩; have HJ2 := Lib.hid hj2; clear hj2))
                have nc : (c != c) = false := by simp
                obtain ⟨v, A1, A2⟩ := pairApart HJ2.out a b
                have nv : (v != v) = false := by cases v <;> rfl
                go_wp2_with fail
                refine A1.out.mono ?_
                rintro e wa ⟨rfl, hba⟩
                go_wp2_with fail
                refine (A2.out _ hba).mono ?_
                rintro e wb ⟨rfl, hbb⟩
                go_wp2_with fail
                go_roundw
                case rel => exact ⟨q + 1, by omega, by go_num, (HJ2.out.later hba).later hbb⟩
                case measure => simp [intOf]; omega
              · as_aux_lemma =>
                have HJ2 := HJ0
                obtain ⟨v, A1, A2⟩ := pairApart HJ2.out a b
                have nv : (v != v) = false := by cases v <;> rfl
                go_wp2_with fail
                refine A1.out.mono ?_
                rintro e wa ⟨rfl, hba⟩
                go_wp2_with fail
                refine (A2.out _ hba).mono ?_
                rintro e wb ⟨rfl, hbb⟩
                go_wp2_with fail
                go_roundw
                case rel => exact ⟨q + 1, by omega, by go_num, (HJ2.out.later hba).later hbb⟩
                case measure => simp [intOf]; omega)
        · have hqn' : ¬ (q : Int) < n := by omega
          as_aux_lemma =>
          obtain ⟨pa, ml, L, M, cut, X, Y, O, x, y, o, h1, h2, h3, h4, h5, h6, h7⟩ := HJ.out
          have PC := Lib.hid (fun W (h : Below wr.heap.size wr W) => parcels_any (h1.later h) (h2.later h))
          have HM := Lib.hid (fun W (h : Below wr.heap.size wr W) => h3.later h)
          have PLC := Lib.hid (fun W (h : Below wr.heap.size wr W) => netPlaces_any (h1.later h))
          have H4 := Lib.hid h4
          have HPLL := Lib.hid (places_len HL.out)
          have c2 : wr.cell? ⟨gm, 2, none⟩ = some ml := by rw [cell_block h3.2.1]; rfl
          have hgl := block_lt h3.2.1
          have B6 := HJ.out.below
          obtain ⟨am, cm, rfl⟩ := h3.read.1.len
          clear h1 h2 h3 h4 h5 h6 h7
          go_wp2_with fail
          go_region_held3 (fun w' => w'.cell? ⟨gm, 2, none⟩ = some (.slice am M.length cm))
            (first
              | go_keep
              | (rw [hbp.cell (p := ⟨gm, 2, none⟩) hgl]; exact c2)
              | (rw [hbs.cell (p := ⟨gm, 2, none⟩) (Nat.lt_of_lt_of_le hgl hbp.size), hbp.cell (p := ⟨gm, 2, none⟩) hgl]; exact c2)
              | (rw [hbl.cell (p := ⟨gm, 2, none⟩) (Nat.lt_of_lt_of_le hgl (Nat.le_trans hbp.size hbs.size)), hbs.cell (p := ⟨gm, 2, none⟩) (Nat.lt_of_lt_of_le hgl hbp.size), hbp.cell (p := ⟨gm, 2, none⟩) hgl]; exact c2))
            (first
              | (go_at_call 24; refine (PC.out _ (Below.refl _ _).drew).mono ?_; rintro e wp ⟨hbp, vp, Mp, rfl, hpr, hpd⟩; have HPR := Lib.hid hpr; have HPD := Lib.hid hpd; clear hpr hpd)
              | (go_at_call 18; refine (refSame_yes HPR.out.read (HM.out _ ⟨hbp.os, hbp.tape, hbp.output, hbp.size, hbp.block⟩).read (HPD.out.trans H4.out)).mono ?_; rintro e ws ⟨rfl, hbs⟩)
              | (go_at_call 12; refine (PLC.out _ (((⟨hbp.os, hbp.tape, hbp.output, hbp.size, hbp.block⟩ : Below wr.heap.size wr wp)).trans (hbs.mono hbp.size))).mono ?_; rintro e wl ⟨vl, rfl, hol, hbl⟩; have hol2 := hol; rw [HPLL.out] at hol2; obtain ⟨al2, cl2, rfl⟩ := (RowN.of_own hol2).len; clear hol hol2))
          go_wp2_with fail
          go_ret
          have hbp' : Below wr.heap.size wr wp := ⟨hbp.os, hbp.tape, hbp.output, hbp.size, hbp.block⟩
          have b1 := hbp'.trans (hbs.mono hbp'.size)
          have b2 := b1.trans (hbl.mono b1.size)
          exact ⟨rfl, B6.trans (b2.mono B6.size)⟩
end Go.Proofs.Ytlhmfdklpjpnlaa
