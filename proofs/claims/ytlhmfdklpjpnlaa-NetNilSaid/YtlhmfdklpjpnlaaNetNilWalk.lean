/- The walk of the law NetNil. -/
import Derived.Test.YtlhmfdklpjpnlaaNetBytes
namespace Go.Proofs.Ytlhmfdklpjpnlaa
open Go.RowKit
set_option linter.unusedVariables false

set_option maxRecDepth 100000 in
theorem nil_long {a : Option Addr} {n c : Nat} (i : Int) (w : World) (hn : 100 < n) (hl : n ≤ 9223372036854775807) :
    Calls Try.prog 6 #[.slice a n c, .int .i64 i] w fun e w' => e = .returned (.bool true) ∧ Below w.heap.size w w' := by
  have h' : (100 : Int) < n := by omega
  go_enter Try.func6, Try.ntmps6
  go_wp2_with fail
  refine (netAwake_any _).mono ?_
  rintro e w1 ⟨rfl, hb1⟩
  go_wp2_with fail
  go_ret
  exact ⟨rfl, hb1⟩

/-- What holds while the bytes that were taken are held against those that were posted. -/
def TRel (w0 : World) (base : Nat) (v : Value) (bs : List UInt8) (k : Nat) (wr : World) : Prop :=
  ∃ l : List UInt8, (∀ j, k ≤ j → l[j]? = bs[j]?) ∧ wr.ownsRow base 5 1 v bs.length (u8s l) ∧ Spares (fun k => v.ownBlock = some k) w0 wr
theorem TRel.run {w0 wr : World} {base k : Nat} {v : Value} {bs : List UInt8} (h : TRel w0 base v bs k wr) : BRun w0 base bs.length v wr := by
  obtain ⟨l, _, h2, h3⟩ := h; exact ⟨⟨l, h2⟩, h3⟩
theorem TRel.drew {w0 wr : World} {base k : Nat} {v : Value} {bs : List UInt8} (h : TRel w0 base v bs k wr) : TRel w0 base v bs k wr.drew := by
  obtain ⟨l, h1, h2, h3⟩ := h; exact ⟨l, h1, h2.drew, h3.drew⟩
theorem TRel.set {w0 wr : World} {base b cap k : Nat} {z : UInt8} {bs : List UInt8} (h : TRel w0 base (.slice (some ⟨b, 0, none⟩) bs.length cap) bs k wr) : TRel w0 base (.slice (some ⟨b, 0, none⟩) bs.length cap) bs (k + 1) (wr.setCell ⟨b, k, none⟩ (.int .u8 (z.toNat : Int))) := by
  obtain ⟨l, h1, h2, h3⟩ := h
  refine ⟨l.set k z, fun j hj => ?_, bytes_set h2 k z, h3.setAt rfl⟩
  rw [List.getElem?_set_ne (by omega)]; exact h1 j (by omega)

theorem u8_info : (Try.prog.info? 5).map (fun i => (i.zero, i.size, i.bytes)) = some (some (.int .u8 0), 1, 1) := by kernel_rfl

set_option maxRecDepth 100000 in
set_option maxHeartbeats 8000000 in
theorem nil_go {a : Option Addr} {c : Nat} {bs : List UInt8} (i : Int) (w : World) (hn : bs.length ≤ 100) (hr : RowN 1 w (.slice a bs.length c) bs.length (u8s bs)) :
    Calls Try.prog 6 #[.slice a bs.length c, .int .i64 i] w fun e w' => e = .returned (.bool true) ∧ Below w.heap.size w w' := by
  have h' : ¬ (100 : Int) < bs.length := by omega
  obtain ⟨i0, hi0, hz0, hz1, hz2⟩ := info_parts u8_info
  have HR := Lib.hid hr
  have HNEW := Lib.hid (show newB [1, 2] [0, 0] = true by decide)
  have HPC := Lib.hid (show postCode [(1, 0), (2, 0)] 0 bs.length 1 2 = 0 by unfold postCode; rw [if_neg (by decide), if_neg (by omega), if_neg (by omega)])
  clear hr
  go_enter Try.func6, Try.ntmps6
  go_wp2_with fail
  refine (netAwake_any _).mono ?_
  rintro e w1 ⟨rfl, hb1⟩
  go_wp2_with fail
  refine (take_nil _ _).mono ?_
  rintro e w2 ⟨rfl, hb2⟩
  have B2 := below_two hb1 hb2
  clear hb1 hb2
  go_wp2_with fail
  refine (netPlaces_nil _).mono ?_
  rintro e w3 ⟨rfl, rfl⟩
  go_wp2_with fail
  refine (cut_nil _ _ _ _).mono ?_
  rintro e w3 ⟨rfl, rfl⟩
  go_wp2_with fail
  refine (apart_nil _ _ _).mono ?_
  rintro e w3 ⟨rfl, rfl⟩
  go_wp2_with fail
  refine (post_nil _ _ _ _).mono ?_
  rintro e w3 ⟨rfl, rfl⟩
  go_wp2_with fail
  refine (parcels_nil _).mono ?_
  rintro e w3 ⟨rfl, rfl⟩
  go_wp2_with fail
  refine (lose_nil _ _).mono ?_
  rintro e w3 ⟨rfl, rfl⟩
  go_wp2_with fail
  refine (double_nil _ _).mono ?_
  rintro e w3 ⟨rfl, rfl⟩
  go_wp2_with fail
  refine (new_any (rs := [1, 2]) (is := [0, 0]) (row_new2 (l := i64s [1, 2]) rfl (by decide) rfl (by simp)) (row_new (l := i64s [0, 0]) rfl (by decide) rfl (by simp)) (by decide) (by decide)).mono ?_
  rintro e w4 ⟨hb4, ⟨hx, _⟩ | ⟨_, g, rfl, hg, N4⟩⟩
  · rw [HNEW.out] at hx; cases hx
  have B4 : Below w.heap.size w w4 := (((B2.alloc B2.size _).alloc (by have := B2.size; simp; omega) _).alloc (by have := B2.size; simp; omega) _).trans (hb4.mono (by have := B2.size; simp; omega))
  have B4z := B4.size
  have N4 := N4.lower (base' := w.heap.size) (by have := B2.size; simp; omega)
  have P4 : PRow w4 w.heap.size (.slice none 0 0) [] := ⟨⟨rfl, .inl ⟨rfl, rfl⟩⟩, (fun p hp => by cases hp), by simp⟩
  rw [show places [1, 2] [0, 0] = [(1, 0), (2, 0)] from rfl] at N4
  clear hb4 hg B2
  go_wp2_with (at_builtin; go_must (refine wpList_append_row (W := w4) rfl (.tmp 83) (.tmp 84) _ rfl 5 i0 _ 1 1 Try.underlying40 hi0 hz0 hz1 hz2 rfl (by omega) rfl _ bs.length (u8s bs) rfl (HR.out.later (⟨B4.os, B4.tape, B4.output, B4.size, B4.block⟩ : Below w.heap.size w w4)) (u8s_one bs) (by simp only [maxLen]; omega) (by omega) ?_; intro vm w5 ho5 hb5; have B5 := B4.trans (hb5.mono B4z); have N5 := N4.later hb5; have P5 := P4.later hb5; have O5 := Lib.hid (own_mono ho5 B4z); obtain ⟨am, cm, rfl⟩ := (RowN.of_own ho5).len; clear ho5 N4 P4 hb5 B4))
  refine (post_yes N5 P5 B5.size (RowN.of_own O5.out) 1 2 HPC.out).mono ?_
  rintro e w6 ⟨rfl, pa6, bv6, N6, P6, S6, hpa6, hf6⟩
  have B6 := B5.trans (below_spared N5 P5 S6 B5.size)
  have O6 := Lib.hid (bytes_spared O5.out N5 P5 S6)
  have z56 := S6.size
  clear hpa6 N5 P5 S6
  have D6 : Calls Try.prog 21 #[.pointer (some ⟨g, 0, none⟩), .int .i64 0] w6 _ := double_yes (i := 0) N6 P6 B6.size (f := 1) (t := 2) (bq := bv6) (bs := bs) rfl (by simp)
  have D6 := Lib.hid D6
  go_wp2_with fail
  refine D6.out.mono ?_
  rintro e w7 ⟨rfl, pa7, bv7, N7, P7, S7, hpa7, hf7⟩
  have B7 := B6.trans (below_spared N6 P6 S7 B6.size)
  have O7 := Lib.hid (bytes_spared O6.out N6 P6 S7)
  have b67 : Hid (∀ k, bv6.ownBlock = some k → k < w6.heap.size) := by
    intro k hk
    obtain ⟨_, c2, hc⟩ := own_block (P6.2.1 (1, 2, bv6, bs) (by simp)).1 hk
    exact block_lt hc
  have bm5 : Hid (∀ k, (Value.slice am bs.length cm).ownBlock = some k → k < w5.heap.size) := by
    intro k hk
    obtain ⟨_, c2, hc⟩ := own_block O5.out hk
    exact block_lt hc
  have HF6 := Lib.hid hf6
  have HF7 := Lib.hid hf7
  clear hpa7 N6 P6 S7 D6 hf6 hf7
  go_wp2_with fail
  go_loopw [11] (fun i wr => ∃ k : Nat, k ≤ bs.length ∧ i = .int .i64 (k : Int) ∧ BRun w7 w.heap.size bs.length (.slice am bs.length cm) wr) (fun i _ => bs.length - (intOf i).toNat)
  case atStart => exact ⟨0, by omega, rfl, ⟨bs, O7.out⟩, Spares.refl _ _⟩
  case round =>
    obtain ⟨k, hk, rfl, hrun⟩ := hrel
    have HRUN := Lib.hid hrun
    by_cases hlt : k < bs.length
    · have hlt' : (k : Int) < bs.length := by omega
      obtain ⟨⟨l, hl⟩, _⟩ := hrun
      obtain ⟨gb, cb, z, e, hgb, hgl, hz, d1, d2, _⟩ := bytes_at hl hlt
      injection e with e _ e3
      subst e e3
      obtain ⟨y, hy⟩ := xor_u8 z 1 (by omega)
      have HS := Lib.hid (HRUN.out.set (k := k) (z := y))
      have hy' : bits .xor .u8 (z.toNat : Int) 1 = (y.toNat : Int) := hy
      clear hl hz hy HRUN
      go_wp2_with fail
      go_roundw
      case rel => exact ⟨k + 1, by omega, by go_num, HS.out⟩
      case measure => simp [intOf]; omega
    · have hlt' : ¬ (k : Int) < bs.length := by omega
      obtain ⟨w8, rfl⟩ : ∃ w8 : World, w8 = wr := ⟨_, rfl⟩
      have N8 := hrun.net O7.out N7
      have P8 := hrun.par O7.out P7 (by
        intro p hp j hj hm
        have m5 := bm5.out j hm
        simp only [List.nil_append, List.cons_append, List.mem_cons, List.not_mem_nil, or_false] at hp
        rcases hp with rfl | rfl
        · have := HF6.out j hj; omega
        · have := HF7.out j hj; omega)
      have B8 := B7.trans (hrun.below O7.out B7.size)
      have z78 := hrun.2.size
      have B7z := B7.size
      clear hrun HRUN
      clear N7 P7 B7 O5 O6 O7 bm5 HF6
      go_wp2_with fail
      refine (parcels_any N8 P8).mono ?_
      rintro e w9 ⟨hb9, v9, M, rfl, PM, hM⟩
      obtain ⟨c1, c2, rfl⟩ : ∃ c1 c2, M = [(1, 2, c1, bs), (1, 2, c2, bs)] := by
        match M, hM with
        | [(f1, t1, c1, l1), (f2, t2, c2, l2)], hM =>
          simp only [List.nil_append, List.cons_append, List.map_cons, List.map_nil, dat] at hM
          injection hM with h1 h2
          injection h2 with h2 _
          injection h1 with h1 h3; injection h3 with h3 h4
          injection h2 with h2 h5; injection h5 with h5 h6
          subst h1 h3 h4 h2 h5 h6
          exact ⟨c1, c2, rfl⟩
      have N9 := N8.later hb9
      have P9 := P8.later hb9
      have B9 := B8.trans (hb9.mono B8.size)
      obtain ⟨b9, cap9, rfl, hb9l, _, _, r2⟩ := PM.at (i := 0) (p := (1, 2, c1, bs)) rfl
      simp only [Nat.zero_mul, Nat.zero_add] at r2
      have C1 := Lib.hid (PM.2.1 (1, 2, c1, bs) (by simp)).1
      obtain ⟨_, cur9, hc9⟩ := own_block PM.1 rfl
      have HC9 := Lib.hid hc9
      obtain ⟨ac, cc, e⟩ := (RowN.of_own C1.out).len
      simp only at e
      subst e
      have old8 : Hid (∀ p ∈ ([] ++ [((1 : Int), (2 : Int), bv6, bs)] ++ [(1, 2, bv7, bs)] : List Par), ∀ k, p.2.2.1.ownBlock = some k → k < w8.heap.size) := fun p hp k hk => by
        obtain ⟨_, c2, hc⟩ := own_block (P8.2.1 p hp).1 hk
        exact block_lt hc
      simp only [List.length_cons, List.length_nil, Nat.zero_add, Nat.reduceAdd] at *
      have b8z := hb9.size
      clear hM hb9 PM hc9 N8 P8 B8
      go_wp2_with fail
      go_loopw [13] (fun i wr => ∃ k : Nat, k ≤ bs.length ∧ i = .int .i64 (k : Int) ∧ BRun w9 w8.heap.size bs.length (.slice ac bs.length cc) wr) (fun i _ => bs.length - (intOf i).toNat)
      case atStart => exact ⟨0, by omega, rfl, ⟨bs, C1.out⟩, Spares.refl _ _⟩
      case round =>
        obtain ⟨k, hk, rfl, hrun⟩ := hrel
        have HRUN := Lib.hid hrun
        by_cases hlt : k < bs.length
        · have hlt' : (k : Int) < bs.length := by omega
          have k0 : (0 : Int) ≤ k := by omega
          have c9 : wr.cell? ⟨b9, 2, none⟩ = some (.slice ac bs.length cc) := by
            rw [hrun.2.cell (p := ⟨b9, 2, none⟩) hb9l (by
              intro e
              obtain ⟨_, c3, h3⟩ := own_block C1.out e
              exact ne_type HC9.out h3 (by decide) rfl)]
            exact r2
          obtain ⟨⟨l, hl⟩, _⟩ := hrun
          obtain ⟨gb, cb, z, e, hgb, hgl, hz, d1, d2, _⟩ := bytes_at hl hlt
          injection e with e _ e3
          subst e e3
          obtain ⟨y, hy⟩ := xor_u8 z 2 (by omega)
          have HS := Lib.hid (HRUN.out.drew.set (k := k) (z := y))
          have hy' : bits .xor .u8 (z.toNat : Int) 2 = (y.toNat : Int) := hy
          clear hl hz hy HRUN
          go_wp2_with fail
          go_region
          go_wp2_with fail
          go_roundw
          case rel => exact ⟨k + 1, by omega, by go_num, HS.out⟩
          case measure => simp [intOf]; omega
        · have hlt' : ¬ (k : Int) < bs.length := by omega
          obtain ⟨w10, rfl⟩ : ∃ w10 : World, w10 = wr := ⟨_, rfl⟩
          have N10 := hrun.net C1.out N9
          have P10 := hrun.par C1.out P9 (by
            intro p hp j hj hm
            have m5 := (own_block C1.out hm).1
            have := old8.out p hp j hj
            omega)
          have B10 := B9.trans ((hrun.below C1.out b8z).mono (Nat.le_trans B7z z78))
          clear hrun HRUN N9 P9 B9 C1 HC9
          have T10 : Calls Try.prog 16 #[.pointer (some ⟨g, 0, none⟩), .int .i64 0] w10 _ := take_yes (i := 0) N10 P10 (f := 1) (t := 2) (bq := bv6) (bs := bs) rfl rfl
          have T10 := Lib.hid T10
          have Q6 := Lib.hid (P10.2.1 (1, 2, bv6, bs) (by simp)).1
          go_wp2_with fail
          refine T10.out.mono ?_
          rintro e w11 ⟨rfl, pa11, N11, P11, S11, _⟩
          have R11 := Lib.hid (bytes_spared Q6.out N10 P10 S11)
          have B11 := B10.trans (below_spared N10 P10 S11 B10.size)
          have P11' : PRow w11 w.heap.size pa11 [(1, 2, bv7, bs)] := P11
          obtain ⟨a6, cc6, e⟩ := (RowN.of_own Q6.out).len
          subst e
          clear N10 P10 S11 B10 T10 Q6 P11 old8
          have hb12 : Below w11.heap.size w11 (w11.alloc (.cells #[.int .i64 1, .int .i64 2, .slice a6 bs.length cc6] 45)) := (Below.refl _ _).alloc (Nat.le_refl _) _
          have N12 := N11.later hb12
          have P12 := P11'.later hb12
          have R12 := Lib.hid (own_later R11.out hb12)
          have B12 := B11.trans (hb12.mono B11.size)
          have g12 : Hid ((w11.alloc (.cells #[.int .i64 1, .int .i64 2, .slice a6 bs.length cc6] 45)).heap[w11.heap.size]? = some (.cells #[.int .i64 1, .int .i64 2, .slice a6 bs.length cc6] 45 (0, 0))) := heap_alloc_new w11 _
          have d67 : Hid (∀ k, (Value.slice a6 bs.length cc6).ownBlock = some k → ¬ bv7.ownBlock = some k) := fun k h6 h7 => by
            have := b67.out k h6
            have := HF7.out k h7
            omega
          have pa11l : Hid (∀ k, pa11.ownBlock = some k → k < w11.heap.size) := fun k hk => by
            obtain ⟨_, c3, h3⟩ := own_block P11'.1 hk
            exact block_lt h3
          clear N11 P11' R11 B11 b67 HF7 hb12
          go_wp2_with fail
          generalize w11.alloc (.cells #[.int .i64 1, .int .i64 2, .slice a6 bs.length cc6] 45) = w12 at *
          go_loopw [16] (fun i wr => ∃ k : Nat, k ≤ bs.length ∧ i = .int .i64 (k : Int) ∧ TRel w12 w.heap.size (.slice a6 bs.length cc6) bs k wr) (fun i _ => bs.length - (intOf i).toNat)
          case atStart => exact ⟨0, by omega, rfl, bs, fun _ _ => rfl, R12.out, Spares.refl _ _⟩
          case round =>
            obtain ⟨k, hk, rfl, hrel⟩ := hrel
            have HREL := Lib.hid hrel
            have e12 : wr.heap[w11.heap.size]? = some (.cells #[.int .i64 1, .int .i64 2, .slice a6 bs.length cc6] 45 (0, 0)) := by
              rw [hrel.run.2.block _ (block_lt g12.out) (by
                intro e
                obtain ⟨_, c3, h3⟩ := own_block R12.out e
                exact ne_type g12.out h3 (by decide) rfl)]
              exact g12.out
            have B13 := B12.trans (hrel.run.below R12.out B12.size)
            by_cases hlt : k < bs.length
            · have hlt' : (k : Int) < bs.length := by omega
              have k0 : (0 : Int) ≤ k := by omega
              obtain ⟨p0, p1, p2, _, _, _⟩ := block3 e12
              obtain ⟨l, hl0, hl, _⟩ := hrel
              obtain ⟨gb, cb, z, e, hgb, hgl, hz, d1, d2, _⟩ := bytes_at hl hlt
              injection e with e _ e3
              subst e e3
              rw [hl0 k (Nat.le_refl _)] at hz
              obtain ⟨_, ⟨hx, _⟩ | ⟨ba, oa, ca, e, _, hba, hca⟩⟩ := HR.out
              · omega
              injection e with e _ e3
              subst e e3
              have d3 : wr.cell? ⟨ba, oa + k, none⟩ = some (.int .u8 (z.toNat : Int)) := by
                rw [B13.cell (p := ⟨ba, oa + k, none⟩) hba]
                exact hca k _ (by unfold u8s; rw [List.getElem?_map, hz]; rfl)
              obtain ⟨y, hy⟩ := xor_u8 z 4 (by omega)
              have HS := Lib.hid (HREL.out.drew.drew.set (z := y))
              have hy' : bits .xor .u8 (z.toNat : Int) 4 = (y.toNat : Int) := hy
              have hne0 : ((z.toNat : Int) != (z.toNat : Int)) = false := by simp
              clear hl hl0 hz hy HREL e12 hca B13
              go_wp2_with fail
              go_region
              go_wp2_with fail
              go_region
              go_wp2_with fail
              go_roundw
              case rel => exact ⟨k + 1, by omega, by go_num, HS.out⟩
              case measure => simp [intOf]; omega
            · have hlt' : ¬ (k : Int) < bs.length := by omega
              obtain ⟨w13, rfl⟩ : ∃ w13 : World, w13 = wr := ⟨_, rfl⟩
              have N13 := hrel.run.net R12.out N12
              have P13 := hrel.run.par R12.out P12 (by
                intro p hp j hj hm
                rw [List.mem_singleton] at hp
                subst hp
                exact d67.out j hm hj)
              obtain ⟨p0, p1, p2, _, _, _⟩ := block3 e12
              have E12 := Lib.hid e12
              have T13 : Calls Try.prog 16 #[.pointer (some ⟨g, 0, none⟩), .int .i64 0] w13 _ := take_yes (i := 0) N13 P13 (f := 1) (t := 2) (bq := bv7) (bs := bs) rfl rfl
              have T13 := Lib.hid T13
              have Q7 := Lib.hid (P13.2.1 (1, 2, bv7, bs) (by simp)).1
              clear hrel HREL e12
              go_wp2_with fail
              refine T13.out.mono ?_
              rintro e w14 ⟨rfl, pa14, _, _, S14, _⟩
              have R14 := Lib.hid (RowN.of_own (bytes_spared Q7.out N13 P13 S14))
              have B14 := B13.trans (below_spared N13 P13 S14 B13.size)
              obtain ⟨a7, cc7, e⟩ := (RowN.of_own Q7.out).len
              subst e
              have E14 : w14.heap[w11.heap.size]? = some (.cells #[.int .i64 1, .int .i64 2, .slice a6 bs.length cc6] 45 (0, 0)) := by
                rw [S14.block _ (block_lt E12.out) (by
                  rintro (e | e)
                  · obtain ⟨cs, hg⟩ := N13.blk
                    exact ne_type E12.out hg (by decide) e
                  · exact absurd (pa11l.out _ e) (by omega))]
                exact E12.out
              have q2 : w14.cell? ⟨w11.heap.size, 2, none⟩ = some (.slice a6 bs.length cc6) := by rw [cell_block E14]; rfl
              have hq := block_lt E14
              have hb15 : Below w14.heap.size w14 (w14.alloc (.cells #[.int .i64 1, .int .i64 2, .slice a7 bs.length cc7] 45)) := (Below.refl _ _).alloc (Nat.le_refl _) _
              have cv1 := conv_u8s (R14.out.later hb15)
              have cv2 := conv_u8s ((HR.out.later B14).later hb15)
              have heq : ((bs.length : Int) == (bs.length : Int)) = true := by simp
              clear E14 p0 p1 p2 T13 R14 Q7 S14
              go_wp2_with fail
              go_ret
              exact ⟨rfl, B14.alloc B14.size _⟩

theorem netNil_walk (a0 : Option Addr) (l0 c0 : Nat) (a1 : Int) (w : World) (r0 : Reads Try.prog w 40 [.slice a0 l0 c0]) (w1 : (Lit.int .i64 a1).wf = true) :
    Calls Try.prog 6 #[.slice a0 l0 c0, .int .i64 a1] w fun e w' => e = .returned (.bool true) ∧ Below w.heap.size w w' := by
  obtain ⟨bs, hl, hr, hz⟩ := reads_u8s r0
  by_cases h : 100 < l0
  · exact nil_long a1 w h hz
  · subst hl
    exact nil_go a1 w (by omega) hr
end Go.Proofs.Ytlhmfdklpjpnlaa
