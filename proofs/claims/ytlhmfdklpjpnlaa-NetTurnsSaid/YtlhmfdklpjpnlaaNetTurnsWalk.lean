/- The walk of the law NetTurns. -/
import Derived.Test.YtlhmfdklpjpnlaaNetRows
import Derived.Laws.OwnMore
import Derived.RegionTactic
import Derived.BigRegion
import Derived.ChangeAlike
import Derived.Outline
namespace Go.Proofs.Ytlhmfdklpjpnlaa
open Go.RowKit Punnet.Flt
set_option linter.unusedVariables false

theorem NetAt.set {w : World} {base g h i : Nat} {ps : List (Int × Int)} {pa : Value} {cut : Bool} {x y off : Int} {cur : Array Value} {u : Value} (hn : NetAt w base g ps pa cut x y off) (hh : w.heap[h]? = some (.cells cur 2 (0, 0))) : NetAt (w.setCell ⟨h, i, none⟩ u) base g ps pa cut x y off := by
  obtain ⟨h1, ⟨v, h2, h3⟩, h4⟩ := hn
  have hs : Spares (· = h) w (w.setCell ⟨h, i, none⟩ u) := (Spares.refl (· = h) w).set1
  refine ⟨h1, ⟨v, (hs.block g (block_lt h2) fun e => ?_).trans h2, own_spares h3 hs fun k hk e => ?_⟩, h4⟩
  · rw [e, hh] at h2; injection h2 with h2; injection h2 with _ h2 _; exact absurd h2 (by decide)
  · obtain ⟨_, cur', hc⟩ := own_block h3 hk
    rw [e, hh] at hc; injection hc with hc; injection hc with _ hc _; exact absurd hc (by decide)
theorem NetAt.mono {w : World} {base base' g : Nat} {ps : List (Int × Int)} {pa : Value} {cut : Bool} {x y off : Int} (hn : NetAt w base g ps pa cut x y off) (hb : base' ≤ base) : NetAt w base' g ps pa cut x y off := by
  obtain ⟨h1, ⟨v, h2, h3⟩, h4⟩ := hn
  exact ⟨Nat.le_trans hb h1, ⟨v, h2, own_mono h3 hb⟩, h4⟩

/-- A net, and two rows beside it. -/
def NT (w : World) (g gp gq cp cq n : Nat) (pl : List (Int × Int)) (x y off : Int) (P Q : List Int) (wr : World) : Prop :=
  NetAt wr w.heap.size g pl (.slice none 0 0) true x y off ∧ wr.ownsRow w.heap.size 2 1 (.slice (some ⟨gp, 0, none⟩) n cp) n (i64s P) ∧ wr.ownsRow w.heap.size 2 1 (.slice (some ⟨gq, 0, none⟩) n cq) n (i64s Q) ∧ gp ≠ gq ∧ Below w.heap.size w wr

theorem NT.drew {w : World} {g gp gq cp cq n : Nat} {pl : List (Int × Int)} {x y off : Int} {P Q : List Int} {wr : World} (h : NT w g gp gq cp cq n pl x y off P Q wr) : NT w g gp gq cp cq n pl x y off P Q wr.drew := by
  obtain ⟨h1, h2, h3, h4, h5⟩ := h
  exact ⟨h1.later ⟨rfl, rfl, rfl, Nat.le_refl _, fun _ _ => rfl⟩, h2.drew, h3.drew, h4, h5.drew⟩
theorem NT.cells {w : World} {g gp gq cp cq n : Nat} {pl : List (Int × Int)} {x y off : Int} {P Q : List Int} {wr : World} (h : NT w g gp gq cp cq n pl x y off P Q wr) {i : Nat} {p q : Int} (hp : P[i]? = some p) (hq : Q[i]? = some q) :
    wr.cell? ⟨gp, i, none⟩ = some (.int .i64 p) ∧ wr.cell? ⟨gq, i, none⟩ = some (.int .i64 q) ∧ wr.frozen? ⟨gp, i, none⟩ = false ∧ wr.frozen? ⟨gq, i, none⟩ = false := by
  obtain ⟨h1, h2, h3, h4, h5⟩ := h
  obtain ⟨_, c1, e1⟩ := own_block h2 rfl
  obtain ⟨_, c2, e2⟩ := own_block h3 rfl
  have k1 : ∀ (b cap : Nat) (L : List Int) (v : Int), wr.ownsRow w.heap.size 2 1 (.slice (some ⟨b, 0, none⟩) n cap) n (i64s L) → L[i]? = some v → wr.cell? ⟨b, i, none⟩ = some (.int .i64 v) := by
    intro b cap L v ho hv
    have hi := (List.getElem?_eq_some_iff.1 hv).1
    rcases RowAt.of_own ho with ⟨hx, _⟩ | ⟨b', o', cap', hx, _, _, hc⟩
    · have := congrArg List.length hx; rw [i64s_len, List.length_nil] at this; omega
    · injection hx with hx _ _; injection hx with hx; injection hx with hx1 hx2 _
      subst hx1 hx2
      have := hc i (by rw [i64s_len]; exact hi)
      rw [i64s_get] at this
      rw [Nat.zero_add] at this
      rw [this]
      rw [List.getElem?_eq_getElem hi] at hv; injection hv with hv; rw [hv]
  exact ⟨k1 _ _ _ _ h2 hp, k1 _ _ _ _ h3 hq, free_block e1, free_block e2⟩
theorem i64s_set (l : List Int) (i : Nat) (v : Int) : i64s (l.set i v) = (i64s l).set i (.int .i64 v) := by unfold i64s; rw [List.map_set]
theorem NT.swap {w : World} {g gp gq cp cq n : Nat} {pl : List (Int × Int)} {x y off : Int} {P Q : List Int} {wr : World} (h : NT w g gp gq cp cq n pl x y off P Q wr) (i : Nat) (a b : Int) :
    NT w g gp gq cp cq n pl x y off (P.set i a) (Q.set i b) ((wr.setCell ⟨gp, i, none⟩ (.int .i64 a)).setCell ⟨gq, i, none⟩ (.int .i64 b)) := by
  obtain ⟨h1, h2, h3, h4, h5⟩ := h
  obtain ⟨b1, c1, e1⟩ := own_block h2 rfl
  obtain ⟨b2, c2, e2⟩ := own_block h3 rfl
  have s1 := (h2.stored i (.int .i64 a)).1
  have q1 : (wr.setCell ⟨gp, i, none⟩ (.int .i64 a)).ownsRow w.heap.size 2 1 (.slice (some ⟨gq, 0, none⟩) n cq) n (i64s Q) := own_spares h3 ((Spares.refl (· = gp) wr).set1) fun k hk e => h4 (e.symm.trans (by simpa [Value.ownBlock] using hk.symm))
  have s2 := (q1.stored i (.int .i64 b)).1
  obtain ⟨_, c3, e3⟩ := own_block q1 rfl
  refine ⟨(h1.set e1).set e3, ?_, ?_, h4, ?_⟩
  · rw [i64s_set]
    exact own_spares s1 ((Spares.refl (· = gq) _).set1) fun k hk e => h4 ((by simpa [Value.ownBlock] using hk : gp = k).trans e)
  · rw [i64s_set]; exact s2
  · have hx := ((Spares.refl (· = gp) wr).set1 (j := i) (v := .int .i64 a)).below h5.size (fun k e => e ▸ b1)
    have hy := ((Spares.refl (· = gq) (wr.setCell ⟨gp, i, none⟩ (.int .i64 a))).set1 (j := i) (v := .int .i64 b)).below (Nat.le_trans h5.size hx.size) (fun k e => e ▸ b2)
    exact (h5.trans hx).trans hy

/-- The one's first elements, then the other's. -/
def mix (i : Nat) (a b : List Int) : List Int := a.take i ++ b.drop i
theorem mix_get {i : Nat} {a b : List Int} (hl : a.length = b.length) (hi : i < b.length) : (mix i a b)[i]? = some b[i] := by
  unfold mix
  rw [List.getElem?_append_right (by simp; omega)]
  simp [hl, hi, Nat.min_eq_left (Nat.le_of_lt hi)]
theorem mix_set {i : Nat} {a b : List Int} (hl : a.length = b.length) (hi : i < a.length) : (mix i a b).set i a[i] = mix (i + 1) a b := by
  unfold mix
  rw [List.set_append_right _ _ (by simp; omega), List.drop_eq_getElem_cons (l := b) (i := i) (by omega)]
  have : i - (a.take i).length = 0 := by simp; omega
  rw [this, List.set_cons_zero, List.take_succ_eq_append_getElem hi, List.append_assoc]
  rfl
theorem mix_all {n : Nat} {a b : List Int} (ha : a.length = n) (hb : b.length = n) : mix n a b = a := by
  unfold mix; rw [List.take_of_length_le (by omega), List.drop_eq_nil_of_le (by omega), List.append_nil]

/-- The places and the way are small; each place is as far along the way as it was. -/
def Turned (rs is : List Int) (x y : Int) (P Q : List Int) (u v : Int) : Prop :=
  P.length = rs.length ∧ Q.length = rs.length ∧ smallB u v = true ∧ ∀ i (h : i < rs.length) (h1 : i < P.length) (h2 : i < Q.length) (h3 : i < is.length), smallB P[i] Q[i] = true ∧ P[i] * u + Q[i] * v = rs[i] * x + is[i] * y

theorem Turned.turn {rs is : List Int} {x y : Int} {P Q : List Int} {u v : Int} (h : Turned rs is x y P Q u v) : Turned rs is x y (Q.map fun z => -z) P (-v) u := by
  obtain ⟨h1, h2, h3, h4⟩ := h
  have hs := smallB_true.1 h3
  refine ⟨by simp [h2], h1, smallB_true.2 (by omega), fun i h a b c => ?_⟩
  obtain ⟨k1, k2⟩ := h4 i h b (by simpa using a) c
  have ks := smallB_true.1 k1
  rw [List.getElem_map]
  refine ⟨smallB_true.2 (by omega), ?_⟩
  rw [← k2, Int.neg_mul_neg]; omega

theorem Turned.new {rs is : List Int} {x y : Int} {P Q : List Int} {u v : Int} (h : Turned rs is x y P Q u v) (hn : newB rs is = true) : newB P Q = true := by
  obtain ⟨h1, h2, h3, h4⟩ := h
  unfold newB at *
  rw [Bool.and_eq_true, decide_eq_true_iff, List.all_eq_true] at *
  refine ⟨by omega, fun p hp => ?_⟩
  obtain ⟨i, hi, rfl⟩ := List.getElem_of_mem hp
  have hpl := places_len (rs := P) (is := Q) (by omega)
  have := places_get (rs := P) (is := Q) (by omega) (k := i) (by omega)
  rw [List.getElem?_eq_getElem hi] at this
  injection this with this
  rw [this]
  exact (h4 i (by omega) (by omega) (by omega) (by omega)).1
theorem Turned.apart {rs is : List Int} {x y : Int} {P Q : List Int} {u v : Int} (h : Turned rs is x y P Q u v) (hl : rs.length = is.length) (off a b : Int) : apartB (places P Q) true u v off a b = apartB (places rs is) true x y off a b := by
  obtain ⟨h1, h2, h3, h4⟩ := h
  have l1 := places_len (rs := P) (is := Q) (by omega)
  have l2 := places_len hl
  have hr : ∀ a, repB (places P Q) a = repB (places rs is) a := by intro a; unfold repB; rw [l1, l2, h1]
  have hsd : ∀ a, repB (places rs is) a = true → sideAt (places P Q) u v off a = sideAt (places rs is) x y off a := by
    intro a ha
    have ha := of_decide_eq_true ha
    rw [l2] at ha
    unfold sideAt
    have hi : (a - 1).toNat < rs.length := by omega
    rw [List.getD_eq_getElem?_getD, List.getD_eq_getElem?_getD, places_get (by omega) (by omega : (a - 1).toNat < P.length), places_get hl hi]
    simp only [Option.getD_some]
    rw [(h4 _ hi (by omega) (by omega) (by omega)).2]
  unfold apartB
  rw [hr a, hr b]
  cases ha : repB (places rs is) a with
  | false => simp
  | true =>
    cases hb : repB (places rs is) b with
    | false => simp
    | true => rw [hsd a ha, hsd b hb]

theorem i64_info : (Try.prog.info? 2).map (fun i => (i.zero, i.size, i.bytes)) = some (some (.int .i64 0), 1, 8) := by kernel_rfl

set_option maxRecDepth 100000 in
set_option maxHeartbeats 4000000 in
theorem netTurns_go {b0 o0 c0 b1 o1 c1 n : Nat} {rs is : List Int} {x y off a b tn : Int} {w : World} (hb0 : b0 < w.heap.size) (hb1 : b1 < w.heap.size) (hn0 : rs.length = n) (hn1 : is.length = n)
    (hc0 : ∀ j (hj : j < rs.length), w.cell? ⟨b0, o0 + j, none⟩ = some (.int .i64 rs[j])) (hc1 : ∀ j (hj : j < is.length), w.cell? ⟨b1, o1 + j, none⟩ = some (.int .i64 is[j]))
    (hn : newB rs is = true) (hs : smallB x y = true) (wo : -9223372036854775808 ≤ off ∧ off ≤ 9223372036854775807) (ht : 0 ≤ tn ∧ tn ≤ 255) :
    Calls Try.prog 3 #[.slice (some ⟨b0, o0, none⟩) n c0, .slice (some ⟨b1, o1, none⟩) n c1, .int .i64 x, .int .i64 y, .int .i64 off, .int .u8 tn, .int .i64 a, .int .i64 b] w fun e w' => e = .returned (.bool true) ∧ Below w.heap.size w w' := by
  obtain ⟨i0, hi0, hz0, hz1, hz2⟩ := info_parts i64_info
  obtain ⟨hl, h1, h6⟩ := of_decide_eq_true (Bool.and_eq_true .. ▸ hn).1
  rw [hn0] at h1 h6
  have R0 : RowAt w (.slice (some ⟨b0, o0, none⟩) n c0) (i64s rs) := .inr ⟨b0, o0, c0, by rw [i64s_len, hn0], by rw [i64s_len]; omega, hb0, fun j hj => by rw [i64s_get]; exact hc0 j (by rw [i64s_len] at hj; exact hj)⟩
  have R1 : RowAt w (.slice (some ⟨b1, o1, none⟩) n c1) (i64s is) := .inr ⟨b1, o1, c1, by rw [i64s_len, hn1], by rw [i64s_len]; omega, hb1, fun j hj => by rw [i64s_get]; exact hc1 j (by rw [i64s_len] at hj; exact hj)⟩
  have hT0 : Turned rs is x y rs is x y := by
    refine ⟨rfl, by omega, hs, fun i h h1 h2 h3 => ⟨?_, rfl⟩⟩
    have := (Bool.and_eq_true .. ▸ hn).2
    exact List.all_eq_true.1 this _ (List.mem_of_getElem? (places_get hl h))
  have news : ∀ (W : World) (bb oo : Nat) (L : List Int), Below w.heap.size w W → bb < w.heap.size → (∀ j (hj : j < L.length), w.cell? ⟨bb, oo + j, none⟩ = some (.int .i64 L[j])) → ∀ j u, (i64s L)[j]? = some u → W.cell? ((⟨bb, oo, none⟩ : Addr).add j) = some u := by
    intro W bb oo L hB hbb hc j u hu
    obtain ⟨hj, rfl⟩ := List.getElem?_eq_some_iff.1 hu
    rw [add_spot, hB.cell hbb, i64s_get]
    exact hc j (by rw [i64s_len] at hj; exact hj)
  have one : ∀ (L : List Int), ∀ u ∈ i64s L, u.oneCell' = true := by
    intro L u hu
    obtain ⟨z, _, rfl⟩ := List.mem_map.1 hu
    rfl
  have HNEWS := Lib.hid news
  have HONE := Lib.hid one
  have HT := Lib.hid hT0
  have HN := Lib.hid hn
  have HS := Lib.hid hs
  have HL := Lib.hid hl
  have HN0 := Lib.hid hn0
  have HN1 := Lib.hid hn1
  have HC0 := Lib.hid hc0
  have HC1 := Lib.hid hc1
  have l0 : rs.length ≤ 9223372036854775807 := by omega
  have l1 : is.length ≤ 9223372036854775807 := by omega
  clear news one hT0 hn hs hl hc0 hc1 hn0 hn1
  go_enter Try.func3, Try.ntmps3
  go_wp2_with fail
  refine (netAwake_any _).mono ?_
  rintro e w1 ⟨rfl, hb1'⟩
  go_wp2_with fail
  refine (new_any (R0.later hb1') (R1.later hb1') l0 l1).mono ?_
  rintro e w2 ⟨hb2, ⟨hx, _⟩ | ⟨_, g, rfl, hg, N2⟩⟩
  · rw [HN.out] at hx; cases hx
  have B2 := below_two hb1' hb2
  have hgw : w.heap.size ≤ g := Nat.le_trans hb1'.size hg
  have N2 := N2.mono hb1'.size
  go_wp2_with fail
  refine (cut_yes HS.out N2 _ wo).mono ?_
  rintro e w3 ⟨rfl, N3, hs3⟩
  have B3 := B2.trans (hs3.below B2.size (fun j e => e ▸ hgw))
  have b3z := B3.size
  clear hb2 hb1' hg hs3 N2 B2
  go_wp2_with (first
    | (at_builtin; refine wpList_append_clone (W := w3) rfl (.tmp 45) (.tmp 46) _ rfl 2 i0 _ 1 8 Try.underlying22 hi0 hz0 hz1 hz2 rfl (by omega) rfl ⟨b0, o0, none⟩ n c0 (i64s rs) rfl (by rw [i64s_len, Nat.mul_one, HN0.out]) (HNEWS.out _ b0 o0 rs B3 hb0 HC0.out) (HONE.out rs) (by omega) (by simp only [maxLen]; omega) (by omega) ?_; intro gp cp w4 hge4 hlt4 ho4 hb4; have B4 := B3.trans (hb4.mono b3z); have HO4 := Lib.hid (own_mono ho4 b3z); have N4 := N3.later hb4; clear ho4 N3)
    | (at_builtin; go_must (refine wpList_append_clone (W := w4) rfl (.tmp 48) (.tmp 49) _ rfl 2 i0 _ 1 8 Try.underlying22 hi0 hz0 hz1 hz2 rfl (by omega) rfl ⟨b1, o1, none⟩ n c1 (i64s is) rfl (by rw [i64s_len, Nat.mul_one, HN1.out]) (HNEWS.out _ b1 o1 is B4 hb1 HC1.out) (HONE.out is) (by omega) (by simp only [maxLen]; omega) (by omega) ?_; intro gq cq w5 hge5 hlt5 ho5 hb5; have B5 := B4.trans (hb5.mono B4.size); have HO5 := Lib.hid (own_mono ho5 B4.size); have HO4' := Lib.hid (own_later HO4.out hb5); have N5 := N4.later hb5; clear ho5 N4 HO4)))
  have HNT : Hid (NT w g gp gq cp cq n (places rs is) x y off rs is w5) := ⟨N5, HO4'.out, HO5.out, by omega, B5⟩
  clear N5 HO4' HO5 B5 B4 B3 hb4 hb5 hge4 hge5 hlt4 hlt5 b3z R0 R1 HNEWS HONE HC0 HC1
  obtain ⟨T, rfl⟩ : ∃ T : Nat, tn = T := ⟨tn.toNat, by omega⟩
  go_loopw [21, 22, 23] (fun u v k wr => ∃ (K : Nat) (U V : Int) (P Q : List Int), K ≤ T ∧ k = .int .i64 (K : Int) ∧ u = .int .i64 U ∧ v = .int .i64 V ∧ Turned rs is x y P Q U V ∧ NT w g gp gq cp cq n (places rs is) x y off P Q wr) (fun _ _ k _ => T - (intOf k).toNat)
  case atStart => exact ⟨0, x, y, rs, is, by omega, rfl, rfl, rfl, HT.out, HNT.out⟩
  case round =>
    obtain ⟨K, U, V, P, Q, hK, rfl, rfl, rfl, hT, hNT⟩ := hrel
    have HT1 := Lib.hid hT
    have HNT1 := Lib.hid hNT
    have hUV := smallB_true.1 hT.2.2.1
    obtain ⟨u1, u2, v1, v2⟩ := hUV
    clear hT hNT HNT HT
    by_cases hlt : K < T
    · have hlt' : (K : Int) < (T : Int) := by omega
      go_wp2_with fail
      obtain ⟨wo, rfl⟩ : ∃ wo : World, wo = wr := ⟨_, rfl⟩
      go_loopw [24] (fun i wq => ∃ I : Nat, I ≤ n ∧ i = .int .i64 (I : Int) ∧ NT w g gp gq cp cq n (places rs is) x y off (mix I (Q.map fun z => -z) P) (mix I P Q) wq) (fun i _ => n - (intOf i).toNat)
      case atStart => exact ⟨0, by omega, rfl, HNT1.out⟩
      case round =>
        obtain ⟨I, hI, rfl, hNT⟩ := hrel
        have HNT2 := Lib.hid hNT
        clear hNT
        have lP : P.length = n := HT1.out.1.trans HN0.out
        have lQ : Q.length = n := HT1.out.2.1.trans HN0.out
        have HLP := Lib.hid lP
        have HLQ := Lib.hid lQ
        by_cases hIn : I < n
        · have hIn' : (I : Int) < (n : Int) := by omega
          have I0 : (0 : Int) ≤ (I : Int) := by omega
          have sm := (HT1.out.2.2.2 I (by rw [HN0.out]; exact hIn) (by omega) (by omega) (by rw [HN1.out]; exact hIn)).1
          obtain ⟨p1, p2, q1, q2⟩ := smallB_true.1 sm
          have hp := mix_get (i := I) (a := Q.map fun z => -z) (b := P) (by simp; omega) (by omega)
          have hq := mix_get (i := I) (a := P) (b := Q) (by omega) (by omega)
          obtain ⟨d1, d2, f1, f2⟩ := HNT2.out.cells hp hq
          have hne := HNT2.out.2.2.2.1
          have HS1 := Lib.hid (HNT2.out.drew.swap I (-Q[I]) P[I])
          have e1 := mix_set (i := I) (a := Q.map fun z => -z) (b := P) (by simp; omega) (by simp; omega)
          have e2 := mix_set (i := I) (a := P) (b := Q) (by omega) (by omega)
          rw [List.getElem_map] at e1
          rw [e1, e2] at HS1
          clear e1 e2 hp hq sm
          generalize P[I] = pi at *
          generalize Q[I] = qi at *
          clear lP lQ
          go_wp2_with fail
          go_region
          go_wp2_with fail
          go_roundw
          case rel => exact ⟨I + 1, by omega, by go_num, HS1.out⟩
          case measure => simp [intOf]; omega
        · have hIn' : ¬ (I : Int) < (n : Int) := by omega
          have HF := Lib.hid (show NT w g gp gq cp cq n (places rs is) x y off (Q.map fun z => -z) P wr by
            have := HNT2.out
            rw [show I = n by omega, mix_all (by simp; omega) lP, mix_all lP lQ] at this
            exact this)
          clear lP lQ
          go_wp2_with fail
          go_roundw
          case rel => exact ⟨K + 1, -V, U, Q.map fun z => -z, P, by omega, by go_num, rfl, rfl, HT1.out.turn, HF.out⟩
          case measure => simp [intOf]; omega
    · have hlt' : ¬ (K : Int) < (T : Int) := by omega
      have NB := Lib.hid (HT1.out.new HN.out)
      have AP := Lib.hid (fun (a b : Int) => HT1.out.apart HL.out off a b)
      have lP : P.length = n := HT1.out.1.trans HN0.out
      have lQ : Q.length = n := HT1.out.2.1.trans HN0.out
      obtain ⟨N6, o1, o2, _, B6⟩ := HNT1.out
      have R2 := RowAt.of_own o1
      have R3 := RowAt.of_own o2
      have zP : P.length ≤ 9223372036854775807 := by omega
      have zQ : Q.length ≤ 9223372036854775807 := by omega
      have HUV := Lib.hid HT1.out.2.2.1
      clear o1 o2 lP lQ
      go_wp2_with fail
      refine (new_any R2 R3 zP zQ).mono ?_
      rintro e w7 ⟨hb7, ⟨hx, _⟩ | ⟨_, m, rfl, hm, M7⟩⟩
      · rw [NB.out] at hx; cases hx
      have B7 := B6.trans (hb7.mono B6.size)
      have N7 := N6.later hb7
      have hgm : g ≠ m := by
        have := block_lt N6.blk.choose_spec
        omega
      have hmw : w.heap.size ≤ m := Nat.le_trans B6.size hm
      have hmb := M7.blk
      clear hb7 N6 R2 R3
      go_wp2_with fail
      refine (cut_yes HUV.out M7 _ wo).mono ?_
      rintro e w8 ⟨rfl, M8, hs8⟩
      have B8 := B7.trans (hs8.below B7.size (fun j e => e ▸ hmw))
      have N8 := N7.spares hs8 hgm hmb
      clear hs8 N7 hmb
      have AP1 := Lib.hid (AP.out a b)
      generalize hv : apartB (places rs is) true x y off a b = v at *
      have HV := Lib.hid hv
      clear hv
      go_wp2_with fail
      refine (apart_is M8 AP1.out).mono ?_
      rintro e w9 ⟨rfl, hb9⟩
      have B9 := B8.trans (hb9.mono B8.size)
      have N9 := N8.later hb9
      clear hb9 N8 M8
      go_wp2_with fail
      refine (apart_is N9 HV.out).mono ?_
      rintro e w10 ⟨rfl, hb10⟩
      have B10 := B9.trans (hb10.mono B9.size)
      go_wp2_with fail
      go_ret
      exact ⟨rfl, B10⟩

set_option maxHeartbeats 1000000 in
theorem netTurns_no {v0 v1 : Value} {rs is : List Int} {x y off a b tn : Int} {w : World} (r0 : RowAt w v0 (i64s rs)) (r1 : RowAt w v1 (i64s is)) (hl0 : rs.length ≤ 9223372036854775807) (hl1 : is.length ≤ 9223372036854775807) (h : newB rs is = false ∨ (newB rs is = true ∧ smallB x y = false)) :
    Calls Try.prog 3 #[v0, v1, .int .i64 x, .int .i64 y, .int .i64 off, .int .u8 tn, .int .i64 a, .int .i64 b] w fun e w' => e = .returned (.bool true) ∧ Below w.heap.size w w' := by
  obtain ⟨ad, cap, rfl⟩ := r0.len
  obtain ⟨ad1, cap1, rfl⟩ := r1.len
  rcases h with hn | ⟨hn, hs⟩
  · have HN := Lib.hid hn
    clear hn
    go_enter Try.func3, Try.ntmps3
    go_wp2_with fail
    refine (netAwake_any _).mono ?_
    rintro e w1 ⟨rfl, hb1⟩
    go_wp2_with fail
    refine (new_any (r0.later hb1) (r1.later hb1) hl0 hl1).mono ?_
    rintro e w2 ⟨hb2, ⟨_, rfl⟩ | ⟨hx, _⟩⟩
    case inr => rw [HN.out] at hx; cases hx
    have B2 := below_two hb1 hb2
    go_wp2_with fail
    go_ret
    exact ⟨rfl, B2⟩
  · have HN := Lib.hid hn
    have HS := Lib.hid hs
    clear hn hs
    go_enter Try.func3, Try.ntmps3
    go_wp2_with fail
    refine (netAwake_any _).mono ?_
    rintro e w1 ⟨rfl, hb1⟩
    go_wp2_with fail
    refine (new_any (r0.later hb1) (r1.later hb1) hl0 hl1).mono ?_
    rintro e w2 ⟨hb2, ⟨hx, _⟩ | ⟨_, g, rfl, hg, N2⟩⟩
    · rw [HN.out] at hx; cases hx
    have B2 := below_two hb1 hb2
    go_wp2_with fail
    refine (cut_no HS.out g _ _).mono ?_
    rintro e w3 ⟨rfl, hb3⟩
    have B3 := B2.trans (hb3.mono B2.size)
    go_wp2_with fail
    go_ret
    exact ⟨rfl, B3⟩

theorem u8_of_wf {n : Int} (h : (Lit.int .u8 n).wf = true) : 0 ≤ n ∧ n ≤ 255 := by
  simpa [Lit.wf, IntKind.min, IntKind.max, IntKind.signed, IntKind.bits] using h

theorem netTurns_walk (a0 : Option Addr) (l0 c0 : Nat) (a1 : Option Addr) (l1 c1 : Nat) (a2 : Int) (a3 : Int) (a4 : Int) (a5 : Int) (a6 : Int) (a7 : Int) (w : World) (r0 : Reads Try.prog w 22 [.slice a0 l0 c0]) (r1 : Reads Try.prog w 22 [.slice a1 l1 c1]) (w2 : (Lit.int .i64 a2).wf = true) (w3 : (Lit.int .i64 a3).wf = true) (w4 : (Lit.int .i64 a4).wf = true) (w5 : (Lit.int .u8 a5).wf = true) (w6 : (Lit.int .i64 a6).wf = true) (w7 : (Lit.int .i64 a7).wf = true) :
    Calls Try.prog 3 #[.slice a0 l0 c0, .slice a1 l1 c1, .int .i64 a2, .int .i64 a3, .int .i64 a4, .int .u8 a5, .int .i64 a6, .int .i64 a7] w fun e w' => e = .returned (.bool true) ∧ Below w.heap.size w w' := by
  obtain ⟨rs, e1, h1, z1, _⟩ := reads_i64s r0
  obtain ⟨is, e2, h2, z2, _⟩ := reads_i64s r1
  cases hn : newB rs is with
  | false => exact netTurns_no h1 h2 (by omega) (by omega) (.inl hn)
  | true =>
    cases hs : smallB a2 a3 with
    | false => exact netTurns_no h1 h2 (by omega) (by omega) (.inr ⟨hn, hs⟩)
    | true =>
      obtain ⟨hl, h3, h4⟩ := of_decide_eq_true (Bool.and_eq_true .. ▸ hn).1
      rcases h1 with ⟨h1, _⟩ | ⟨b1, o1, k1, h5, _, p1, q1⟩
      · have := congrArg List.length h1; rw [i64s_len, List.length_nil] at this; omega
      rcases h2 with ⟨h2, _⟩ | ⟨b2, o2, k2, h6, _, p2, q2⟩
      · have := congrArg List.length h2; rw [i64s_len, List.length_nil] at this; omega
      injection h5 with h5 _ h7
      injection h6 with h6 _ h8
      subst h5 h6
      obtain rfl : l0 = l1 := by omega
      refine netTurns_go p1 p2 e1 e2 (fun j hj => ?_) (fun j hj => ?_) hn hs (i64_of_wf w4) (u8_of_wf w5)
      · rw [q1 j (by rw [i64s_len]; exact hj), i64s_get]
      · rw [q2 j (by rw [i64s_len]; exact hj), i64s_get]
end Go.Proofs.Ytlhmfdklpjpnlaa
