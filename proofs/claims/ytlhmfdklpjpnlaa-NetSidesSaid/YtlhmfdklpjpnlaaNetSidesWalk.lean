/- The walk of the law NetSides. Printed by gen_netsides.py. -/
import Derived.Test.YtlhmfdklpjpnlaaNetRows
namespace Go.Proofs.Ytlhmfdklpjpnlaa
open Go.RowKit Punnet.Flt
set_option linter.unusedVariables false

theorem apart_sym (ps : List (Int × Int)) (cut : Bool) (x y off a b : Int) : apartB ps cut x y off a b = apartB ps cut x y off b a := by
  unfold apartB
  rw [Bool.eq_iff_iff]
  simp only [Bool.and_eq_true, bne_iff_ne, ne_eq]
  constructor
  · rintro ⟨⟨⟨h1, h2⟩, h3⟩, h4⟩; exact ⟨⟨⟨h1, h3⟩, h2⟩, fun e => h4 e.symm⟩
  · rintro ⟨⟨⟨h1, h2⟩, h3⟩, h4⟩; exact ⟨⟨⟨h1, h3⟩, h2⟩, fun e => h4 e.symm⟩
theorem apart_self (ps : List (Int × Int)) (cut : Bool) (x y off a : Int) : apartB ps cut x y off a a = false := by
  unfold apartB; simp
theorem apart_out (ps : List (Int × Int)) (cut : Bool) (x y off a b : Int) (h : repB ps b = false) : apartB ps cut x y off a b = false := by
  unfold apartB; rw [h]; simp
theorem apart_trans {ps : List (Int × Int)} {x y off a b c : Int} (ha : repB ps a = true) (hb : repB ps b = true) (hc : repB ps c = true) (h1 : apartB ps true x y off a b = false) (h2 : apartB ps true x y off b c = false) : apartB ps true x y off a c = false := by
  unfold apartB at *
  rw [ha, hb] at h1
  rw [hb, hc] at h2
  simp only [Bool.and_self, Bool.true_and, bne_eq_false_iff_eq] at h1 h2
  rw [ha, hc, h1, h2]; simp
theorem apart_zero (ps : List (Int × Int)) (off a b : Int) : apartB ps true 0 0 off a b = false := by
  unfold apartB sideAt; simp
theorem repB_iff {ps : List (Int × Int)} {a : Int} : repB ps a = true ↔ 1 ≤ a ∧ a ≤ ps.length := by unfold repB; simp

set_option maxRecDepth 100000 in
set_option maxHeartbeats 8000000 in
theorem netSides_go {v0 v1 : Value} {rs is : List Int} {x y off a b c : Int} {w : World} (r0 : RowAt w v0 (i64s rs)) (r1 : RowAt w v1 (i64s is)) (hl0 : rs.length ≤ 9223372036854775807) (hl1 : is.length ≤ 9223372036854775807) (wo : -9223372036854775808 ≤ off ∧ off ≤ 9223372036854775807) :
    Calls Try.prog 4 #[v0, v1, .int .i64 x, .int .i64 y, .int .i64 off, .int .i64 a, .int .i64 b, .int .i64 c] w fun e w' => e = .returned (.bool true) ∧ Below w.heap.size w w' := by
  obtain ⟨ad, cap, rfl⟩ := r0.len
  rw [i64s_len] at r0 ⊢
  cases hn : newB rs is with
  | false =>
    have HN := Lib.hid hn
    clear hn
    go_enter Try.func4, Try.ntmps4
    go_wp2_with fail
    refine (netAwake_any _).mono ?_
    rintro e w1 ⟨rfl, hb1⟩
    go_wp2_with fail
    refine (new_any (r0.later hb1) (r1.later hb1) hl0 hl1).mono ?_
    rintro e w2 ⟨hb2, ⟨_, rfl⟩ | ⟨hx, _⟩⟩
    case inr => rw [HN.out] at hx; cases hx
    have B2 := below_two hb1 hb2
    go_wp2_with fail
    go_ret
    exact ⟨rfl, B2⟩
  | true =>
    have HN := Lib.hid hn
    have hpl : (places rs is).length = rs.length := places_len (of_decide_eq_true (Bool.and_eq_true .. ▸ hn).1).1
    clear hn
    generalize hps : places rs is = ps at *
    have HP := Lib.hid hps
    clear hps
    have A0 := Lib.hid (show apartB ps false 0 0 0 a b = false from rfl)
    cases hs : smallB x y with
    | false =>
      have HS := Lib.hid hs
      clear hs hpl
      go_enter Try.func4, Try.ntmps4
      go_wp2_with fail
      refine (netAwake_any _).mono ?_
      rintro e w1 ⟨rfl, hb1⟩
      go_wp2_with fail
      refine (new_any (r0.later hb1) (r1.later hb1) hl0 hl1).mono ?_
      rintro e w2 ⟨hb2, ⟨hx, _⟩ | ⟨_, g, rfl, hg, N2⟩⟩
      · rw [HN.out] at hx; cases hx
      have B2 := below_two hb1 hb2
      rw [HP.out] at N2
      have hgw : w.heap.size ≤ g := Nat.le_trans hb1.size hg
      go_wp2_with fail
      refine (apart_is N2 A0.out).mono ?_
      rintro e w3 ⟨rfl, hb3⟩
      have B3 := B2.trans (hb3.mono B2.size)
      have N3 := N2.later hb3
      go_wp2_with fail
      refine (cut_no HS.out g _ _).mono ?_
      rintro e w4 ⟨rfl, hb4⟩
      have B4 := B3.trans (hb4.mono B3.size)
      go_wp2_with fail
      go_ret
      exact ⟨rfl, B4⟩
    | true =>
      have HS := Lib.hid hs
      have HZ := Lib.hid (show smallB 0 0 = true by decide)
      clear hs
      have AA := Lib.hid (apart_self ps true x y off a)
      have AZ := Lib.hid (apart_zero ps off a b)
      have SY := Lib.hid (apart_sym ps true x y off b a)
      by_cases ha : repB ps a = true ∧ repB ps b = true ∧ repB ps c = true
      · obtain ⟨ha, hb, hc⟩ := ha
        have TR := Lib.hid (fun h1 h2 => apart_trans (x := x) (y := y) (off := off) ha hb hc h1 h2)
        obtain ⟨a1, a2⟩ := repB_iff.1 ha
        obtain ⟨b1, b2⟩ := repB_iff.1 hb
        obtain ⟨c1, c2⟩ := repB_iff.1 hc
        rw [hpl] at a2 b2 c2
        have a1' : ¬ a < 1 := by omega
        have a2' : ¬ (rs.length : Int) < a := by omega
        have b1' : ¬ b < 1 := by omega
        have b2' : ¬ (rs.length : Int) < b := by omega
        have c1' : ¬ c < 1 := by omega
        have c2' : ¬ (rs.length : Int) < c := by omega
        clear ha hb hc hpl a1 a2 b1 b2 c1 c2
        cases h1 : apartB ps true x y off a b with
        | true =>
          have AB := Lib.hid h1
          have BA := Lib.hid (SY.out.trans h1)
          clear h1
          go_enter Try.func4, Try.ntmps4
          go_wp2_with fail
          refine (netAwake_any _).mono ?_
          rintro e w1 ⟨rfl, hb1⟩
          go_wp2_with fail
          refine (new_any (r0.later hb1) (r1.later hb1) hl0 hl1).mono ?_
          rintro e w2 ⟨hb2, ⟨hx, _⟩ | ⟨_, g, rfl, hg, N2⟩⟩
          · rw [HN.out] at hx; cases hx
          have B2 := below_two hb1 hb2
          rw [HP.out] at N2
          have hgw : w.heap.size ≤ g := Nat.le_trans hb1.size hg
          go_wp2_with fail
          refine (apart_is N2 A0.out).mono ?_
          rintro e w3 ⟨rfl, hb3⟩
          have B3 := B2.trans (hb3.mono B2.size)
          have N3 := N2.later hb3
          go_wp2_with fail
          refine (cut_yes HS.out N3 _ wo).mono ?_
          rintro e w4 ⟨rfl, N4, hs4⟩
          have B4 := B3.trans (hs4.below B3.size (fun j e => e ▸ hgw))
          go_wp2_with fail
          refine (apart_is N4 AB.out).mono ?_
          rintro e w5 ⟨rfl, hb5⟩
          have B5 := B4.trans (hb5.mono B4.size)
          have N5 := N4.later hb5
          go_wp2_with fail
          refine (apart_is N5 BA.out).mono ?_
          rintro e w6 ⟨rfl, hb6⟩
          have B6 := B5.trans (hb6.mono B5.size)
          have N6 := N5.later hb6
          go_wp2_with fail
          refine (apart_is N6 AA.out).mono ?_
          rintro e w7 ⟨rfl, hb7⟩
          have B7 := B6.trans (hb7.mono B6.size)
          have N7 := N6.later hb7
          go_wp2_with fail
          refine (apart_is N7 AB.out).mono ?_
          rintro e w8 ⟨rfl, hb8⟩
          have B8 := B7.trans (hb8.mono B7.size)
          have N8 := N7.later hb8
          go_wp2_with fail
          refine (cut_yes HZ.out N8 _ wo).mono ?_
          rintro e w9 ⟨rfl, N9, hs9⟩
          have B9 := B8.trans (hs9.below B8.size (fun j e => e ▸ hgw))
          go_wp2_with fail
          refine (apart_is N9 AZ.out).mono ?_
          rintro e w10 ⟨rfl, hb10⟩
          have B10 := B9.trans (hb10.mono B9.size)
          have N10 := N9.later hb10
          go_wp2_with fail
          go_ret
          exact ⟨rfl, B10⟩
        | false =>
          cases h2 : apartB ps true x y off b c with
          | true =>
            have AB := Lib.hid h1
            have BC := Lib.hid h2
            have BA := Lib.hid (SY.out.trans h1)
            clear h1 h2
            go_enter Try.func4, Try.ntmps4
            go_wp2_with fail
            refine (netAwake_any _).mono ?_
            rintro e w1 ⟨rfl, hb1⟩
            go_wp2_with fail
            refine (new_any (r0.later hb1) (r1.later hb1) hl0 hl1).mono ?_
            rintro e w2 ⟨hb2, ⟨hx, _⟩ | ⟨_, g, rfl, hg, N2⟩⟩
            · rw [HN.out] at hx; cases hx
            have B2 := below_two hb1 hb2
            rw [HP.out] at N2
            have hgw : w.heap.size ≤ g := Nat.le_trans hb1.size hg
            go_wp2_with fail
            refine (apart_is N2 A0.out).mono ?_
            rintro e w3 ⟨rfl, hb3⟩
            have B3 := B2.trans (hb3.mono B2.size)
            have N3 := N2.later hb3
            go_wp2_with fail
            refine (cut_yes HS.out N3 _ wo).mono ?_
            rintro e w4 ⟨rfl, N4, hs4⟩
            have B4 := B3.trans (hs4.below B3.size (fun j e => e ▸ hgw))
            go_wp2_with fail
            refine (apart_is N4 AB.out).mono ?_
            rintro e w5 ⟨rfl, hb5⟩
            have B5 := B4.trans (hb5.mono B4.size)
            have N5 := N4.later hb5
            go_wp2_with fail
            refine (apart_is N5 BA.out).mono ?_
            rintro e w6 ⟨rfl, hb6⟩
            have B6 := B5.trans (hb6.mono B5.size)
            have N6 := N5.later hb6
            go_wp2_with fail
            refine (apart_is N6 AA.out).mono ?_
            rintro e w7 ⟨rfl, hb7⟩
            have B7 := B6.trans (hb7.mono B6.size)
            have N7 := N6.later hb7
            go_wp2_with fail
            refine (apart_is N7 AB.out).mono ?_
            rintro e w8 ⟨rfl, hb8⟩
            have B8 := B7.trans (hb8.mono B7.size)
            have N8 := N7.later hb8
            go_wp2_with fail
            refine (apart_is N8 BC.out).mono ?_
            rintro e w9 ⟨rfl, hb9⟩
            have B9 := B8.trans (hb9.mono B8.size)
            have N9 := N8.later hb9
            go_wp2_with fail
            refine (cut_yes HZ.out N9 _ wo).mono ?_
            rintro e w10 ⟨rfl, N10, hs10⟩
            have B10 := B9.trans (hs10.below B9.size (fun j e => e ▸ hgw))
            go_wp2_with fail
            refine (apart_is N10 AZ.out).mono ?_
            rintro e w11 ⟨rfl, hb11⟩
            have B11 := B10.trans (hb11.mono B10.size)
            have N11 := N10.later hb11
            go_wp2_with fail
            go_ret
            exact ⟨rfl, B11⟩
          | false =>
            have AB := Lib.hid h1
            have BC := Lib.hid h2
            have AC := Lib.hid (TR.out h1 h2)
            have BA := Lib.hid (SY.out.trans h1)
            clear h1 h2
            go_enter Try.func4, Try.ntmps4
            go_wp2_with fail
            refine (netAwake_any _).mono ?_
            rintro e w1 ⟨rfl, hb1⟩
            go_wp2_with fail
            refine (new_any (r0.later hb1) (r1.later hb1) hl0 hl1).mono ?_
            rintro e w2 ⟨hb2, ⟨hx, _⟩ | ⟨_, g, rfl, hg, N2⟩⟩
            · rw [HN.out] at hx; cases hx
            have B2 := below_two hb1 hb2
            rw [HP.out] at N2
            have hgw : w.heap.size ≤ g := Nat.le_trans hb1.size hg
            go_wp2_with fail
            refine (apart_is N2 A0.out).mono ?_
            rintro e w3 ⟨rfl, hb3⟩
            have B3 := B2.trans (hb3.mono B2.size)
            have N3 := N2.later hb3
            go_wp2_with fail
            refine (cut_yes HS.out N3 _ wo).mono ?_
            rintro e w4 ⟨rfl, N4, hs4⟩
            have B4 := B3.trans (hs4.below B3.size (fun j e => e ▸ hgw))
            go_wp2_with fail
            refine (apart_is N4 AB.out).mono ?_
            rintro e w5 ⟨rfl, hb5⟩
            have B5 := B4.trans (hb5.mono B4.size)
            have N5 := N4.later hb5
            go_wp2_with fail
            refine (apart_is N5 BA.out).mono ?_
            rintro e w6 ⟨rfl, hb6⟩
            have B6 := B5.trans (hb6.mono B5.size)
            have N6 := N5.later hb6
            go_wp2_with fail
            refine (apart_is N6 AA.out).mono ?_
            rintro e w7 ⟨rfl, hb7⟩
            have B7 := B6.trans (hb7.mono B6.size)
            have N7 := N6.later hb7
            go_wp2_with fail
            refine (apart_is N7 AB.out).mono ?_
            rintro e w8 ⟨rfl, hb8⟩
            have B8 := B7.trans (hb8.mono B7.size)
            have N8 := N7.later hb8
            go_wp2_with fail
            refine (apart_is N8 BC.out).mono ?_
            rintro e w9 ⟨rfl, hb9⟩
            have B9 := B8.trans (hb9.mono B8.size)
            have N9 := N8.later hb9
            go_wp2_with fail
            refine (apart_is N9 AC.out).mono ?_
            rintro e w10 ⟨rfl, hb10⟩
            have B10 := B9.trans (hb10.mono B9.size)
            have N10 := N9.later hb10
            go_wp2_with fail
            refine (cut_yes HZ.out N10 _ wo).mono ?_
            rintro e w11 ⟨rfl, N11, hs11⟩
            have B11 := B10.trans (hs11.below B10.size (fun j e => e ▸ hgw))
            go_wp2_with fail
            refine (apart_is N11 AZ.out).mono ?_
            rintro e w12 ⟨rfl, hb12⟩
            have B12 := B11.trans (hb12.mono B11.size)
            have N12 := N11.later hb12
            go_wp2_with fail
            go_ret
            exact ⟨rfl, B12⟩
      · have hcase : (repB ps a = true ∧ repB ps b = true ∧ repB ps c = false) ∨ a < 1 ∨ (¬ a < 1 ∧ (rs.length : Int) < a) ∨ (¬ a < 1 ∧ ¬ (rs.length : Int) < a ∧ b < 1) ∨ (¬ a < 1 ∧ ¬ (rs.length : Int) < a ∧ ¬ b < 1 ∧ (rs.length : Int) < b) := by
          cases hc : repB ps a with
          | false =>
            have := decide_eq_false_iff_not.1 hc
            omega
          | true =>
            cases hd : repB ps b with
            | false =>
              have h1 := repB_iff.1 hc
              have := decide_eq_false_iff_not.1 hd
              omega
            | true =>
              cases he : repB ps c with
              | false => exact .inl ⟨rfl, rfl, rfl⟩
              | true => exact absurd ⟨hc, hd, he⟩ ha
        clear ha
        rcases hcase with ⟨ha, hb, hc⟩ | hcase
        · obtain ⟨a1, a2⟩ := repB_iff.1 ha
          obtain ⟨b1, b2⟩ := repB_iff.1 hb
          rw [hpl] at a2 b2
          have AC := Lib.hid (apart_out ps true x y off a c hc)
          have BC := Lib.hid (apart_out ps true x y off b c hc)
          have hcc : c < 1 ∨ (¬ c < 1 ∧ (rs.length : Int) < c) := by
            have := decide_eq_false_iff_not.1 hc
            omega
          have a1' : ¬ a < 1 := by omega
          have a2' : ¬ (rs.length : Int) < a := by omega
          have b1' : ¬ b < 1 := by omega
          have b2' : ¬ (rs.length : Int) < b := by omega
          clear ha hb hc hpl a1 a2 b1 b2
          have BA := SY
          generalize hv : apartB ps true x y off a b = v at *
          have AB := Lib.hid hv
          clear hv
          rcases hcc with c1 | ⟨c1, c2⟩
          all_goals
            go_enter Try.func4, Try.ntmps4
            go_wp2_with fail
            refine (netAwake_any _).mono ?_
            rintro e w1 ⟨rfl, hb1⟩
            go_wp2_with fail
            refine (new_any (r0.later hb1) (r1.later hb1) hl0 hl1).mono ?_
            rintro e w2 ⟨hb2, ⟨hx, _⟩ | ⟨_, g, rfl, hg, N2⟩⟩
            · rw [HN.out] at hx; cases hx
            have B2 := below_two hb1 hb2
            rw [HP.out] at N2
            have hgw : w.heap.size ≤ g := Nat.le_trans hb1.size hg
            go_wp2_with fail
            refine (apart_is N2 A0.out).mono ?_
            rintro e w3 ⟨rfl, hb3⟩
            have B3 := B2.trans (hb3.mono B2.size)
            have N3 := N2.later hb3
            go_wp2_with fail
            refine (cut_yes HS.out N3 _ wo).mono ?_
            rintro e w4 ⟨rfl, N4, hs4⟩
            have B4 := B3.trans (hs4.below B3.size (fun j e => e ▸ hgw))
            go_wp2_with fail
            refine (apart_is N4 AB.out).mono ?_
            rintro e w5 ⟨rfl, hb5⟩
            have B5 := B4.trans (hb5.mono B4.size)
            have N5 := N4.later hb5
            go_wp2_with fail
            refine (apart_is N5 BA.out).mono ?_
            rintro e w6 ⟨rfl, hb6⟩
            have B6 := B5.trans (hb6.mono B5.size)
            have N6 := N5.later hb6
            go_wp2_with fail
            refine (apart_is N6 AA.out).mono ?_
            rintro e w7 ⟨rfl, hb7⟩
            have B7 := B6.trans (hb7.mono B6.size)
            have N7 := N6.later hb7
            go_wp2_with fail
            refine (apart_is N7 AC.out).mono ?_
            rintro e w8 ⟨rfl, hb8⟩
            have B8 := B7.trans (hb8.mono B7.size)
            have N8 := N7.later hb8
            go_wp2_with fail
            refine (apart_is N8 BC.out).mono ?_
            rintro e w9 ⟨rfl, hb9⟩
            have B9 := B8.trans (hb9.mono B8.size)
            have N9 := N8.later hb9
            go_wp2_with fail
            go_ret
            exact ⟨rfl, B9⟩
        · clear hpl
          have BA := SY
          generalize hv : apartB ps true x y off a b = v at *
          have AB := Lib.hid hv
          clear hv
          rcases hcase with c1 | ⟨c1, c2⟩ | ⟨c1, c2, c3⟩ | ⟨c1, c2, c3, c4⟩
          all_goals
            go_enter Try.func4, Try.ntmps4
            go_wp2_with fail
            refine (netAwake_any _).mono ?_
            rintro e w1 ⟨rfl, hb1⟩
            go_wp2_with fail
            refine (new_any (r0.later hb1) (r1.later hb1) hl0 hl1).mono ?_
            rintro e w2 ⟨hb2, ⟨hx, _⟩ | ⟨_, g, rfl, hg, N2⟩⟩
            · rw [HN.out] at hx; cases hx
            have B2 := below_two hb1 hb2
            rw [HP.out] at N2
            have hgw : w.heap.size ≤ g := Nat.le_trans hb1.size hg
            go_wp2_with fail
            refine (apart_is N2 A0.out).mono ?_
            rintro e w3 ⟨rfl, hb3⟩
            have B3 := B2.trans (hb3.mono B2.size)
            have N3 := N2.later hb3
            go_wp2_with fail
            refine (cut_yes HS.out N3 _ wo).mono ?_
            rintro e w4 ⟨rfl, N4, hs4⟩
            have B4 := B3.trans (hs4.below B3.size (fun j e => e ▸ hgw))
            go_wp2_with fail
            refine (apart_is N4 AB.out).mono ?_
            rintro e w5 ⟨rfl, hb5⟩
            have B5 := B4.trans (hb5.mono B4.size)
            have N5 := N4.later hb5
            go_wp2_with fail
            refine (apart_is N5 BA.out).mono ?_
            rintro e w6 ⟨rfl, hb6⟩
            have B6 := B5.trans (hb6.mono B5.size)
            have N6 := N5.later hb6
            go_wp2_with fail
            refine (apart_is N6 AA.out).mono ?_
            rintro e w7 ⟨rfl, hb7⟩
            have B7 := B6.trans (hb7.mono B6.size)
            have N7 := N6.later hb7
            go_wp2_with fail
            go_ret
            exact ⟨rfl, B7⟩

theorem netSides_walk (a0 : Option Addr) (l0 c0 : Nat) (a1 : Option Addr) (l1 c1 : Nat) (a2 : Int) (a3 : Int) (a4 : Int) (a5 : Int) (a6 : Int) (a7 : Int) (w : World) (r0 : Reads Try.prog w 22 [.slice a0 l0 c0]) (r1 : Reads Try.prog w 22 [.slice a1 l1 c1]) (w2 : (Lit.int .i64 a2).wf = true) (w3 : (Lit.int .i64 a3).wf = true) (w4 : (Lit.int .i64 a4).wf = true) (w5 : (Lit.int .i64 a5).wf = true) (w6 : (Lit.int .i64 a6).wf = true) (w7 : (Lit.int .i64 a7).wf = true) :
    Calls Try.prog 4 #[.slice a0 l0 c0, .slice a1 l1 c1, .int .i64 a2, .int .i64 a3, .int .i64 a4, .int .i64 a5, .int .i64 a6, .int .i64 a7] w fun e w' => e = .returned (.bool true) ∧ Below w.heap.size w w' := by
  obtain ⟨rs, e1, h1, z1, _⟩ := reads_i64s r0
  obtain ⟨is, e2, h2, z2, _⟩ := reads_i64s r1
  exact netSides_go h1 h2 (by omega) (by omega) (i64_of_wf w4)
end Go.Proofs.Ytlhmfdklpjpnlaa
