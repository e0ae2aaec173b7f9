/- Part 6 of what the proof of LensBytes stands on: CdR, PnR, PtR, PgR, LbLaw, Bridge, LnCells, LbCells, LensBytesWalk. -/
import Derived.Test.YtkgkljphjlikoaaLensBytesM5
section
namespace Go.Vm
open Go.RowKit Go.Proofs
set_option linter.unusedVariables false
set_option linter.unusedSimpArgs false
set_option maxRecDepth 10000

set_option maxHeartbeats 1000000 in
theorem ref4Turn_any (n : Int) (hn : inI64 n) : Contract Try.prog 114 [.sc (.int .i64 (n))] [.d (.sc (.int .u64 ((turnN n : Nat) : Int)))] := by
 refine T.fn [] Try.func114 ?_
 refine br (fun hc1 => ?y1) (fun hc1 => ?n1)
 case' y1 =>
  refine x_conv (pr_cv Try.underlying2 Try.underlying145 (wu64 n)) rfl ?_
  refine x_bin (pr_mul (show IntKind.u64.wrap (2 * ((u64 n : Nat) : Int)) = ((2 * u64 n : Nat) : Int) from wu64n (u := 2 * u64 n) (by unfold u64; omega))) rfl ?_
 case' n1 =>
  refine x_add (c := n + 1) ?_ (h := wi64i (by omega))
  refine x_un (un_neg (by omega)) rfl ?_
  refine x_conv (pr_cv Try.underlying2 Try.underlying145 (wu64 _)) rfl ?_
  refine x_bin (pr_mul (show IntKind.u64.wrap (2 * ((u64 (-(n + 1)) : Nat) : Int)) = ((2 * u64 (-(n + 1)) : Nat) : Int) from wu64n (u := 2 * u64 (-(n + 1))) (by unfold u64; omega))) rfl ?_
  refine x_bin (pr_add (show IntKind.u64.wrap (((2 * u64 (-(n + 1)) : Nat) : Int) + 1) = ((2 * u64 (-(n + 1)) + 1 : Nat) : Int) from wu64n (u := 2 * u64 (-(n + 1)) + 1) (by unfold u64; omega))) rfl ?_
 all_goals (refine x_ret ?_; simp only [fitsL, fits, C.asD, and_true] <;> (first | (rw [show turnN n = 2 * u64 n by unfold turnN u64; rw [if_neg (by omega)]; omega]; done) | (rw [show turnN n = 2 * u64 (-(n + 1)) + 1 by unfold turnN u64; rw [if_pos (by omega)]; omega]; done)))

set_option maxHeartbeats 1000000 in
theorem ref4Back_any (u : Nat) (hu : u < 18446744073709551616) : Contract Try.prog 133 [.sc (.int .u64 ((u : Nat) : Int))] [.d (.sc (.int .i64 (backN u)))] := by
 refine T.fn [] Try.func133 ?_
 refine x_bin (pr_rem (by decide)) rfl ?_
 refine br (fun hc1 => ?y1) (fun hc1 => ?n1)
 case' y1 =>
  have h2 : u % 2 = 0 := by have h := hc1; rw [show ((u : Nat) : Int).tmod 2 = ((u % 2 : Nat) : Int) from rfl] at h; omega
  refine x_bin (pr_quo (by decide) (show IntKind.u64.wrap (((u : Nat) : Int).tdiv 2) = ((u / 2 : Nat) : Int) from wu64n (u := u / 2) (by omega))) rfl ?_
  refine x_conv (pr_cv Try.underlying145 Try.underlying2 (wi64s (by omega))) rfl ?_
 case' n1 =>
  have h2 : u % 2 = 1 := by have h := hc1; rw [show ((u : Nat) : Int).tmod 2 = ((u % 2 : Nat) : Int) from rfl] at h; omega
  refine x_bin (pr_quo (by decide) (show IntKind.u64.wrap (((u : Nat) : Int).tdiv 2) = ((u / 2 : Nat) : Int) from wu64n (u := u / 2) (by omega))) rfl ?_
  refine x_conv (pr_cv Try.underlying145 Try.underlying2 (wi64s (by omega))) rfl ?_
  refine x_un (un_neg (by omega)) rfl ?_
  refine x_sub (c := -((u / 2 : Nat) : Int) - 1) ?_ (h := wi64i (by omega))
 all_goals (refine x_ret ?_; simp only [fitsL, fits, C.asD, and_true] <;> (first | rw [back_odd (by omega)] | rw [back_even (by omega)]))

set_option maxHeartbeats 1000000 in
theorem ref4Put_any (f n : Int) (hn : inI64 n) : Contract Try.prog 78 [.sc (.int .i64 (f)), .sc (.int .i64 (n))] [.own 0 5 (byD (putN f n))] := by
 refine T.fn [] Try.func78 ?_
 have hpl := putN_len f hn
 refine br (fun hc1 => ?y1) (fun hc1 => ?n1)
 case' y1 =>
  refine x_conv (pr_cv Try.underlying2 Try.underlying145 (wu64 n)) rfl ?_
  refine xloopR (fb := []) T.ok (Nat.le_of_ble_eq_true rfl) [0, 1] (fun (s : Nat × Nat × List UInt8) => [(7, .c (.d (.sc (.int .i64 ((s.1 : Nat) : Int))))), (6, .c (.d (.sc (.int .u64 ((s.2.1 : Nat) : Int))))), (5, .c (.own 9 5 (byD s.2.2)))]) (fun s => s.1 ≤ 8 ∧ s.2.2 ++ leN (8 - s.1) s.2.1 = leN 8 (u64 n) ∧ s.2.1 < 18446744073709551616) (fun s => 8 - s.1) (0, u64 n, []) ⟨by (try dsimp only); omega, rfl, u64_lt n⟩ (x_ent (by first | rfl | (simp only [Tr.get]; simp; done)) (x_ent (by first | rfl | (simp only [Tr.get]; simp; done)) (x_ent (by first | rfl | (simp only [Tr.get]; simp; done)) trivial))) ?_
  rintro s ⟨hk, hi, hu⟩
  have hsl : s.2.2.length ≤ 8 := by have := congrArg List.length hi; rw [List.length_append, leN_len, leN_len] at this; omega
  refine br (fun hc2 => ?y2) (fun hc2 => ?n2)
  case' y2 =>
   refine x_bin (r := .int .u64 ((s.2.1 % 256 : Nat) : Int)) (pr_rem (by decide)) rfl ?_
   refine x_conv (pr_cv Try.underlying145 Try.underlying5 (wu8n (by omega))) rfl ?_
   first | refine x_app ?_ (by first | exact one_wide | exact byD_wide _) (hz := by first | exact byD_snocN (by omega) | exact byD_snoc0 (by omega) | exact byD_app _ _ | exact byD_sl (by omega) | exact rfl | rfl) (h1 := by unfold maxLen; ((try simp only [byD_len, List.length_append, List.length_nil, List.length_cons, List.length_map, Int.natCast_add]); omega)) (h2 := by ((try simp only [byD_len, List.length_append, List.length_nil, List.length_cons, List.length_map, Int.natCast_add]); omega)) | refine x_appN ?_ (by first | exact one_wide | exact byD_wide _) (h1 := by unfold maxLen; ((try simp only [byD_len, List.length_append, List.length_nil, List.length_cons, List.length_map, Int.natCast_add]); omega)) (h2 := by ((try simp only [byD_len, List.length_append, List.length_nil, List.length_cons, List.length_map, Int.natCast_add]); omega))
   refine x_bin (pr_quo (by decide) (show IntKind.u64.wrap (((s.2.1 : Nat) : Int).tdiv 256) = ((s.2.1 / 256 : Nat) : Int) from wu64n (u := s.2.1 / 256) (by omega))) rfl ?_
   first | refine x_inc ?_ (h := by ((try simp only [byD_len, List.length_append, List.length_nil, List.length_cons, List.length_map, Int.natCast_add]); omega)) | refine x_add ?_ (h := by first | exact IntWalk.i64_in _ (by ((try simp only [byD_len, List.length_append, List.length_nil, List.length_cons, List.length_map, Int.natCast_add]); omega)) | rfl) | refine x_bin rfl rfl ?_
   refine x_rnd (s.1 + 1, s.2.1 / 256, s.2.2 ++ [UInt8.ofNat (s.2.1 % 256)]) ⟨by (try dsimp only); omega, le_next (by omega) hi, by (try dsimp only); omega⟩ (by (try dsimp only); omega) rfl (x_ent (by first | rfl | (simp only [Tr.get]; simp; done)) (x_ent (by first | rfl | (simp only [Tr.get]; simp; done)) (x_ent (by first | rfl | (simp only [Tr.get]; simp; done)) trivial))) rfl
  case' n2 =>
   have h8 : s.1 = 8 := by omega
   have hfi : s.2.2 = putN f n := by rw [putN_1 (by assumption), ← hi, h8]; simp [leN]
   refine br (fun hc3 => ?y3) (fun hc3 => ?n3)
   case' y3 =>
    exfalso; omega
 case' n1 =>
  refine br (fun hc4 => ?y4) (fun hc4 => ?n4)
  case' y4 =>
   refine x_call T.en_114 (ref4Turn_any _ hn) ?_
   refine xloopR (fb := []) T.ok (Nat.le_of_ble_eq_true rfl) [] (fun (s : Nat × List UInt8) => [(8, .c (.d (.sc (.int .u64 ((s.1 : Nat) : Int))))), (5, .c (.own 9 5 (byD s.2)))]) (fun s => s.2 ++ vary s.1 = vary (turnN n) ∧ s.1 < 18446744073709551616) (fun s => s.1) (turnN n, []) ⟨rfl, turn_lt hn⟩ (x_ent (by first | rfl | (simp only [Tr.get]; simp; done)) (x_ent (by first | rfl | (simp only [Tr.get]; simp; done)) trivial)) ?_
   rintro s ⟨hi, hu⟩
   have hvl := vary_len (turnN n) 0 (by decide) (turn_lt hn)
   have hsl : s.2.length ≤ 10 := by have := congrArg List.length hi; rw [List.length_append] at this; omega
   refine br (fun hc5 => ?y5) (fun hc5 => ?n5)
   case' y5 =>
    refine x_bin (r := .int .u64 ((s.1 % 128 : Nat) : Int)) (pr_rem (by decide)) rfl ?_
    refine x_bin (pr_add (show IntKind.u64.wrap (128 + ((s.1 % 128 : Nat) : Int)) = ((s.1 % 128 + 128 : Nat) : Int) by rw [show (128 : Int) + ((s.1 % 128 : Nat) : Int) = ((s.1 % 128 + 128 : Nat) : Int) by omega]; exact wu64n (by omega))) rfl ?_
    refine x_conv (pr_cv Try.underlying145 Try.underlying5 (wu8n (by omega))) rfl ?_
    first | refine x_app ?_ (by first | exact one_wide | exact byD_wide _) (hz := by first | exact byD_snocN (by omega) | exact byD_snoc0 (by omega) | exact byD_app _ _ | exact byD_sl (by omega) | exact rfl | rfl) (h1 := by unfold maxLen; ((try simp only [byD_len, List.length_append, List.length_nil, List.length_cons, List.length_map, Int.natCast_add]); omega)) (h2 := by ((try simp only [byD_len, List.length_append, List.length_nil, List.length_cons, List.length_map, Int.natCast_add]); omega)) | refine x_appN ?_ (by first | exact one_wide | exact byD_wide _) (h1 := by unfold maxLen; ((try simp only [byD_len, List.length_append, List.length_nil, List.length_cons, List.length_map, Int.natCast_add]); omega)) (h2 := by ((try simp only [byD_len, List.length_append, List.length_nil, List.length_cons, List.length_map, Int.natCast_add]); omega))
    refine x_bin (pr_quo (by decide) (show IntKind.u64.wrap (((s.1 : Nat) : Int).tdiv 128) = ((s.1 / 128 : Nat) : Int) from wu64n (u := s.1 / 128) (by omega))) rfl ?_
    refine x_rnd (s.1 / 128, s.2 ++ [UInt8.ofNat (s.1 % 128 + 128)]) ⟨vary_next (by omega) hi, by (try dsimp only); omega⟩ (by (try dsimp only); omega) rfl (x_ent (by first | rfl | (simp only [Tr.get]; simp; done)) (x_ent (by first | rfl | (simp only [Tr.get]; simp; done)) trivial)) rfl
   case' n5 =>
    have hfi : s.2 ++ [UInt8.ofNat (s.1 % 256)] = putN f n := by rw [putN_2 (by assumption) (by assumption)]; exact vary_last (by omega) hi
    refine x_conv (pr_cv Try.underlying145 Try.underlying5 (wu8m _)) rfl ?_
    first | refine x_app ?_ (by first | exact one_wide | exact byD_wide _) (hz := by first | exact byD_snocN (by omega) | exact byD_snoc0 (by omega) | exact byD_app _ _ | exact byD_sl (by omega) | exact rfl | rfl) (h1 := by unfold maxLen; ((try simp only [byD_len, List.length_append, List.length_nil, List.length_cons, List.length_map, Int.natCast_add]); omega)) (h2 := by ((try simp only [byD_len, List.length_append, List.length_nil, List.length_cons, List.length_map, Int.natCast_add]); omega)) | refine x_appN ?_ (by first | exact one_wide | exact byD_wide _) (h1 := by unfold maxLen; ((try simp only [byD_len, List.length_append, List.length_nil, List.length_cons, List.length_map, Int.natCast_add]); omega)) (h2 := by ((try simp only [byD_len, List.length_append, List.length_nil, List.length_cons, List.length_map, Int.natCast_add]); omega))
 all_goals (refine x_ret ?_; simp only [fitsL, fits, C.asD, and_true] <;> (refine own_fit ?_; first | (rw [hfi]; done) | (rw [putN_0 (by assumption) (by assumption)]; rfl)))

set_option maxHeartbeats 1000000 in
theorem ref4Get_any (b : List UInt8) (a : Nat) (f : Int) (hb : b.length ≤ 16000000) (ha : a ≤ b.length) : Contract Try.prog 117 [.row (byD b), .sc (.int .i64 ((a : Nat))), .sc (.int .i64 (f))] [.d (.sc (.int .i64 (gN (getN b a f)))), .d (.sc (.int .i64 (gE (getN b a f)))), .d (.sc (.int .i64 (gC (if fmtF f then 8 else 2) (getN b a f))))] := by
 refine T.fn [108, 116] Try.func117 ?_
 refine br (fun hg1 => ?y1) (fun hg1 => ?n1)
 case' y1 =>
  refine br (fun hg2 => ?y2) (fun hg2 => ?n2)
  case' y2 =>
   refine brT ?_
   refine brT ?_
  case' n2 =>
   refine br (fun hg5 => ?y5) (fun hg5 => ?n5)
   case' y5 =>
    refine brT ?_
   case' n5 =>
    refine x_len ?_
    refine br (fun hc7 => ?y7) (fun hc7 => ?n7)
    case' n7 =>
     refine br (fun hc8 => ?y8) (fun hc8 => ?n8)
     case' y8 =>
      exfalso; omega
     case' n8 =>
      obtain rfl : f = 2 := by omega
      refine xloopR (fb := [108, 116]) T.ok (Nat.le_of_ble_eq_true rfl) [0, 1, 9] (fun (k : Nat) => [(10, .c (.d (.sc (.int .i64 (k : Nat)))))]) (fun k => k ≤ 10 ∧ ∀ j, j < k → ∃ c, (b.drop a)[j]? = some c ∧ 128 ≤ c.toNat) (fun k => 10 - k) 0 ⟨by decide, fun j hj => absurd hj (Nat.not_lt_zero _)⟩ (x_ent (by first | rfl | (simp only [Tr.get]; simp; done)) trivial) ?_
      rintro k ⟨hk, hlead⟩
      first | refine x_inc ?_ (h := by ((try simp only [byD_len, List.length_append, List.length_nil, List.length_cons, List.length_map, Int.natCast_add]); omega)) | refine x_add ?_ (h := by first | exact IntWalk.i64_in _ (by ((try simp only [byD_len, List.length_append, List.length_nil, List.length_cons, List.length_map, Int.natCast_add]); omega)) | rfl) | refine x_bin rfl rfl ?_
      refine x_len ?_
      refine br (fun hg9 => ?y9) (fun hg9 => ?n9)
      case' y9 =>
       obtain ⟨c, hp⟩ : ∃ c, b[a + k]? = some c := ⟨_, List.getElem?_eq_getElem (by omega)⟩
       first | refine x_inc ?_ (h := by ((try simp only [byD_len, List.length_append, List.length_nil, List.length_cons, List.length_map, Int.natCast_add]); omega)) | refine x_add ?_ (h := by first | exact IntWalk.i64_in _ (by ((try simp only [byD_len, List.length_append, List.length_nil, List.length_cons, List.length_map, Int.natCast_add]); omega)) | rfl) | refine x_bin rfl rfl ?_
       first | refine x_ix (by first | exact byD_at hp | exact byD_ix hp (by omega) | exact byD_ix hpd (by omega)) ?_ | refine x_ixI (by first | exact byD_at hp | exact byD_ix hp (by omega) | exact byD_ix hpd (by omega)) ?_
       refine br (fun hg10 => ?y10) (fun hg10 => ?n10)
       case' y10 =>
        refine br (fun hc11 => ?y11) (fun hc11 => ?n11)
        case' y11 =>
         first | refine x_inc ?_ (h := by ((try simp only [byD_len, List.length_append, List.length_nil, List.length_cons, List.length_map, Int.natCast_add]); omega)) | refine x_add ?_ (h := by first | exact IntWalk.i64_in _ (by ((try simp only [byD_len, List.length_append, List.length_nil, List.length_cons, List.length_map, Int.natCast_add]); omega)) | rfl) | refine x_bin rfl rfl ?_
         refine x_rnd (k + 1) ⟨by omega, lead_next hlead (dropA_at hp) (by omega)⟩ (by (try dsimp only); omega) rfl (x_ent (by first | rfl | (simp only [Tr.get]; simp; done)) trivial) rfl
        case' n11 =>
         first | refine x_inc ?_ (h := by ((try simp only [byD_len, List.length_append, List.length_nil, List.length_cons, List.length_map, Int.natCast_add]); omega)) | refine x_add ?_ (h := by first | exact IntWalk.i64_in _ (by ((try simp only [byD_len, List.length_append, List.length_nil, List.length_cons, List.length_map, Int.natCast_add]); omega)) | rfl) | refine x_bin rfl rfl ?_
         refine x_len ?_
         refine br (fun hg12 => ?y12) (fun hg12 => ?n12)
         case' y12 =>
          exfalso; omega
         case' n12 =>
          refine br (fun hc13 => ?y13) (fun hc13 => ?n13)
          case' y13 =>
           have hg : getN b a 2 = none := getN_refn hlead (by omega)
          case' n13 =>
           exfalso; omega
       case' n10 =>
        refine brF ?_
        first | refine x_inc ?_ (h := by ((try simp only [byD_len, List.length_append, List.length_nil, List.length_cons, List.length_map, Int.natCast_add]); omega)) | refine x_add ?_ (h := by first | exact IntWalk.i64_in _ (by ((try simp only [byD_len, List.length_append, List.length_nil, List.length_cons, List.length_map, Int.natCast_add]); omega)) | rfl) | refine x_bin rfl rfl ?_
        refine x_len ?_
        refine br (fun hg15 => ?y15) (fun hg15 => ?n15)
        case' y15 =>
         exfalso; omega
        case' n15 =>
         refine br (fun hc16 => ?y16) (fun hc16 => ?n16)
         case' y16 =>
          have hg : getN b a 2 = none := getN_refn hlead (by omega)
         case' n16 =>
          refine xloopR (fb := [108, 116]) T.ok (Nat.le_of_ble_eq_true rfl) [0, 1, 10] (fun (s : Nat × Nat) => [(12, .c (.d (.sc (.int .i64 (((k : Nat) : Int) - ((s.1 : Nat) : Int)))))), (9, .c (.d (.sc (.int .u64 ((s.2 : Nat) : Int)))))]) (fun s => s.1 ≤ k + 1 ∧ s.2 = valV (((b.drop a).take (k + 1)).drop (k + 1 - s.1)) % 18446744073709551616) (fun s => k + 1 - s.1) (0, 0) ⟨by (try dsimp only); omega, by simp [valV]⟩ (x_ent (by first | rfl | (simp only [Tr.get]; simp; done)) (x_ent (by first | rfl | (simp only [Tr.get]; simp; done)) trivial)) ?_
          rintro s ⟨hj, hi⟩
          have hu : s.2 < 18446744073709551616 := by rw [hi]; exact Nat.mod_lt _ (by decide)
          refine br (fun hc17 => ?y17) (fun hc17 => ?n17)
          case' y17 =>
           obtain ⟨d, hpd⟩ : ∃ d, b[a + (k - s.1)]? = some d := ⟨_, List.getElem?_eq_getElem (by omega)⟩
           have hdl := d.toNat_lt
           refine x_bin (pr_mul (show IntKind.u64.wrap (((s.2 : Nat) : Int) * 128) = ((s.2 * 128 % 18446744073709551616 : Nat) : Int) from wu64m (s.2 * 128))) rfl ?_
           first | refine x_inc ?_ (h := by ((try simp only [byD_len, List.length_append, List.length_nil, List.length_cons, List.length_map, Int.natCast_add]); omega)) | refine x_add ?_ (h := by first | exact IntWalk.i64_in _ (by ((try simp only [byD_len, List.length_append, List.length_nil, List.length_cons, List.length_map, Int.natCast_add]); omega)) | rfl) | refine x_bin rfl rfl ?_
           first | refine x_ix (by first | exact byD_at hp | exact byD_ix hp (by omega) | exact byD_ix hpd (by omega)) ?_ | refine x_ixI (by first | exact byD_at hp | exact byD_ix hp (by omega) | exact byD_ix hpd (by omega)) ?_
           refine x_bin (r := .int .u8 ((d.toNat % 128 : Nat) : Int)) (pr_rem (by decide)) rfl ?_
           refine x_conv (pr_cv Try.underlying5 Try.underlying145 (wu64n (by omega))) rfl ?_
           refine x_bin (pr_add (show IntKind.u64.wrap (((s.2 * 128 % 18446744073709551616 : Nat) : Int) + ((d.toNat % 128 : Nat) : Int)) = (((s.2 * 128 % 18446744073709551616 + d.toNat % 128) % 18446744073709551616 : Nat) : Int) from wu64m (s.2 * 128 % 18446744073709551616 + d.toNat % 128))) rfl ?_
           first | refine x_sub ?_ (h := by first | exact IntWalk.i64_in _ (by ((try simp only [byD_len, List.length_append, List.length_nil, List.length_cons, List.length_map, Int.natCast_add]); omega)) | rfl) | refine x_bin rfl rfl ?_
           refine x_rnd (s.1 + 1, (s.2 * 128 % 18446744073709551616 + d.toNat % 128) % 18446744073709551616) ⟨by (try dsimp only); omega, by (try dsimp only); rw [hi]; exact valV_cons_drop (by omega) (dropA_at hpd)⟩ (by (try dsimp only); omega) rfl (x_ent (by simp only [Tr.get]; first | rfl | (simp; done) | (simp; omega)) (x_ent (by first | rfl | (simp only [Tr.get]; simp; done)) trivial)) rfl
          case' n17 =>
           have hjk : s.1 = k + 1 := by omega
           rw [hjk, Nat.sub_self, List.drop_zero] at hi
           have hg := getN_ref hlead (by omega) hp (by omega) hi
           refine x_call T.en_133 (ref4Back_any _ hu) ?_
           refine x_call T.en_78 (ref4Put_any 2 _ (back_in hu)) ?_
           refine And.intro ⟨T.mixed, by decide +kernel⟩ ?_
           refine q_tostr Try.underlying39 Try.underlying5 Try.underlying9 (l := putN 2 (backN s.2)) ?_
           first | refine x_inc ?_ (h := by ((try simp only [byD_len, List.length_append, List.length_nil, List.length_cons, List.length_map, Int.natCast_add]); omega)) | refine x_add ?_ (h := by first | exact IntWalk.i64_in _ (by ((try simp only [byD_len, List.length_append, List.length_nil, List.length_cons, List.length_map, Int.natCast_add]); omega)) | rfl) | refine x_bin rfl rfl ?_
           first | refine x_inc ?_ (h := by ((try simp only [byD_len, List.length_append, List.length_nil, List.length_cons, List.length_map, Int.natCast_add]); omega)) | refine x_add ?_ (h := by first | exact IntWalk.i64_in _ (by ((try simp only [byD_len, List.length_append, List.length_nil, List.length_cons, List.length_map, Int.natCast_add]); omega)) | rfl) | refine x_bin rfl rfl ?_
           first | refine x_bnd ?_ | refine x_bndI ?_
           first | refine x_bnd ?_ | refine x_bndI ?_
           refine x_row ?_ (by first | exact one_wide | exact byD_wide _) (h1 := by ((try simp only [byD_len, List.length_append, List.length_nil, List.length_cons, List.length_map, Int.natCast_add]); omega)) (h2 := by ((try simp only [byD_len, List.length_append, List.length_nil, List.length_cons, List.length_map, Int.natCast_add]); omega)) (hy := by first | exact byD_sl (n := k + 1) (by omega) | exact rfl | rfl)
           refine q_tostr Try.underlying39 Try.underlying5 Try.underlying9 (l := (b.drop a).take (k + 1)) ?_
           refine br (fun hc18 => ?y18) (fun hc18 => ?n18)
           case' y18 =>
            rw [if_neg hc18] at hg
           case' n18 =>
            rw [if_pos hc18] at hg
            first | refine x_inc ?_ (h := by ((try simp only [byD_len, List.length_append, List.length_nil, List.length_cons, List.length_map, Int.natCast_add]); omega)) | refine x_add ?_ (h := by first | exact IntWalk.i64_in _ (by ((try simp only [byD_len, List.length_append, List.length_nil, List.length_cons, List.length_map, Int.natCast_add]); omega)) | rfl) | refine x_bin rfl rfl ?_
            first | refine x_inc ?_ (h := by ((try simp only [byD_len, List.length_append, List.length_nil, List.length_cons, List.length_map, Int.natCast_add]); omega)) | refine x_add ?_ (h := by first | exact IntWalk.i64_in _ (by ((try simp only [byD_len, List.length_append, List.length_nil, List.length_cons, List.length_map, Int.natCast_add]); omega)) | rfl) | refine x_bin rfl rfl ?_
      case' n9 =>
       refine brF ?_
       refine brF ?_
       first | refine x_inc ?_ (h := by ((try simp only [byD_len, List.length_append, List.length_nil, List.length_cons, List.length_map, Int.natCast_add]); omega)) | refine x_add ?_ (h := by first | exact IntWalk.i64_in _ (by ((try simp only [byD_len, List.length_append, List.length_nil, List.length_cons, List.length_map, Int.natCast_add]); omega)) | rfl) | refine x_bin rfl rfl ?_
       refine x_len ?_
       refine br (fun hg21 => ?y21) (fun hg21 => ?n21)
       case' y21 =>
        refine brT ?_
        have hg : getN b a 2 = none := getN_refn hlead (by omega)
       case' n21 =>
        exfalso; omega
 case' n1 =>
  refine brF ?_
  refine br (fun hg24 => ?y24) (fun hg24 => ?n24)
  case' y24 =>
   refine brT ?_
  case' n24 =>
   refine x_len ?_
   refine br (fun hc26 => ?y26) (fun hc26 => ?n26)
   case' n26 =>
    refine br (fun hc27 => ?y27) (fun hc27 => ?n27)
    case' y27 =>
     obtain rfl : f = 1 := hc27
     refine x_len ?_
     first | refine x_sub ?_ (h := by first | exact IntWalk.i64_in _ (by ((try simp only [byD_len, List.length_append, List.length_nil, List.length_cons, List.length_map, Int.natCast_add]); omega)) | rfl) | refine x_bin rfl rfl ?_
     refine br (fun hc28 => ?y28) (fun hc28 => ?n28)
     case' y28 =>
      have hg := getN_1n (b := b) (a := a) (by omega)
     case' n28 =>
      have hg := getN_1 (b := b) (a := a) (by omega)
      refine xloopR (fb := [108, 116]) T.ok (Nat.le_of_ble_eq_true rfl) [0, 1] (fun (s : Nat × Nat) => [(11, .c (.d (.sc (.int .i64 (7 - ((s.1 : Nat) : Int)))))), (9, .c (.d (.sc (.int .u64 ((s.2 : Nat) : Int)))))]) (fun s => s.1 ≤ 8 ∧ s.2 = leV (((b.drop a).take 8).drop (8 - s.1))) (fun s => 8 - s.1) (0, 0) ⟨by (try dsimp only); omega, by simp [leV]⟩ (x_ent (by first | rfl | (simp only [Tr.get]; simp; done)) (x_ent (by first | rfl | (simp only [Tr.get]; simp; done)) trivial)) ?_
      rintro s ⟨hk, hi⟩
      refine br (fun hc29 => ?y29) (fun hc29 => ?n29)
      case' y29 =>
       obtain ⟨c, hp⟩ : ∃ c, b[a + (7 - s.1)]? = some c := ⟨_, List.getElem?_eq_getElem (by omega)⟩
       have hlt := leV_drop_lt (b := b) (a := a) (j := s.1) (by omega) (by omega)
       rw [← hi] at hlt
       have hcl := c.toNat_lt
       refine x_bin (pr_mul (show IntKind.u64.wrap (((s.2 : Nat) : Int) * 256) = ((s.2 * 256 : Nat) : Int) from wu64n (u := s.2 * 256) (by omega))) rfl ?_
       first | refine x_inc ?_ (h := by ((try simp only [byD_len, List.length_append, List.length_nil, List.length_cons, List.length_map, Int.natCast_add]); omega)) | refine x_add ?_ (h := by first | exact IntWalk.i64_in _ (by ((try simp only [byD_len, List.length_append, List.length_nil, List.length_cons, List.length_map, Int.natCast_add]); omega)) | rfl) | refine x_bin rfl rfl ?_
       first | refine x_ix (by first | exact byD_at hp | exact byD_ix hp (by omega) | exact byD_ix hpd (by omega)) ?_ | refine x_ixI (by first | exact byD_at hp | exact byD_ix hp (by omega) | exact byD_ix hpd (by omega)) ?_
       refine x_conv (pr_cv Try.underlying5 Try.underlying145 (wu64n (by omega))) rfl ?_
       refine x_bin (pr_add (show IntKind.u64.wrap (((s.2 * 256 : Nat) : Int) + ((c.toNat : Nat) : Int)) = ((s.2 * 256 + c.toNat : Nat) : Int) from wu64n (u := s.2 * 256 + c.toNat) (by omega))) rfl ?_
       first | refine x_sub ?_ (h := by first | exact IntWalk.i64_in _ (by ((try simp only [byD_len, List.length_append, List.length_nil, List.length_cons, List.length_map, Int.natCast_add]); omega)) | rfl) | refine x_bin rfl rfl ?_
       refine x_rnd (s.1 + 1, s.2 * 256 + c.toNat) ⟨by (try dsimp only); omega, by (try dsimp only); rw [hi]; exact leV_cons_drop (by omega) hp⟩ (by (try dsimp only); omega) rfl (x_ent (by simp only [Tr.get]; first | rfl | (simp; done) | (simp; omega)) (x_ent (by first | rfl | (simp only [Tr.get]; simp; done)) trivial)) rfl
      case' n29 =>
       have h8 : s.1 = 8 := by omega
       rw [h8, Nat.sub_self, List.drop_zero] at hi
       have hl64 : s.2 < 18446744073709551616 := by rw [hi]; exact leV8_lt _
       rw [← hi] at hg
       refine x_conv (pr_cv Try.underlying145 Try.underlying2 (wi64 hl64)) rfl ?_
       first | refine x_inc ?_ (h := by ((try simp only [byD_len, List.length_append, List.length_nil, List.length_cons, List.length_map, Int.natCast_add]); omega)) | refine x_add ?_ (h := by first | exact IntWalk.i64_in _ (by ((try simp only [byD_len, List.length_append, List.length_nil, List.length_cons, List.length_map, Int.natCast_add]); omega)) | rfl) | refine x_bin rfl rfl ?_
    case' n27 =>
     exfalso; omega
 all_goals (refine x_ret ?_; simp only [fitsL, fits, C.asD, and_true] <;> (first | (rw [hg]; first | (simp [gN, gE, gC]; done) | (simp [gN, gE, gC]; omega)) | (rw [getN_0 (by show ¬ (f = 1 ∨ f = 2); omega), if_neg (by show ¬ (f = 1 ∨ f = 2); omega)]; simp [gN, gE, gC]; done) | (exfalso; omega)))
end Go.Vm
end
section
namespace Go.Vm
open Go.RowKit Go.Proofs
set_option linter.unusedVariables false
set_option linter.unusedSimpArgs false
set_option maxRecDepth 10000

set_option maxHeartbeats 1000000 in
theorem r8text_any (f : Int) (x : ByteArray) (hf : fmtF f) (hx : x.size ≤ 1000000) : Contract Try.prog 115 [.sc (.int .i64 (f)), .sc (.string x)] [.own 0 5 (byD (textP f x))] := by
 refine T.fn [10] Try.func115 ?_
 have hpl := putN_len f (n := (x.size : Nat)) (by omega)
 have hxl : x.data.toList.length = x.size := rfl
 refine x_len ?_
 refine x_call T.en_78 (ref4Put_any _ _ (by omega)) ?_
 refine x_tobytes Try.underlying39 Try.underlying5 Try.underlying9 (s := x) (by unfold maxLen; omega) ?_
 first | refine x_app ?_ (by first | exact one_wide | exact byD_wide _) (hz := by first | exact byD_app _ _ | exact rfl | rfl) (h1 := by unfold maxLen; ((try simp only [byD_len, List.length_append, List.length_nil, List.length_cons, List.length_map, Int.natCast_add]); omega)) (h2 := by ((try simp only [byD_len, List.length_append, List.length_nil, List.length_cons, List.length_map, Int.natCast_add]); omega)) | refine x_appN ?_ (by first | exact one_wide | exact byD_wide _) (h1 := by unfold maxLen; ((try simp only [byD_len, List.length_append, List.length_nil, List.length_cons, List.length_map, Int.natCast_add]); omega)) (h2 := by ((try simp only [byD_len, List.length_append, List.length_nil, List.length_cons, List.length_map, Int.natCast_add]); omega))
 all_goals (refine x_ret ?_; simp only [fitsL, fits, C.asD, and_true] <;> (exact own_fit (by rw [textP_right hf])))

set_option maxHeartbeats 1000000 in
theorem r8getText_any (b : List UInt8) (a : Nat) (f : Int) (most : Int) (hb : b.length ≤ 16000000) (ha : a ≤ b.length) : Contract Try.prog 118 [.row (byD b), .sc (.int .i64 ((a : Nat))), .sc (.int .i64 (f)), .sc (.int .i64 (most))] [.d (.sc (.string (tS (textO b a f most)))), .d (.sc (.int .i64 (tE (textO b a f most)))), .d (.sc (.bool ((textO b a f most).isSome)))] := by
 refine T.fn [47] Try.func118 ?_
 refine x_call T.en_117 (ref4Get_any b a f hb ha) ?_
 refine br (fun hg1 => ?y1) (fun hg1 => ?n1)
 case' y1 =>
  have hT := textO_miss (most := most) (gC_none hg1)
  refine brT ?_
  refine brT ?_
  refine brT ?_
 case' n1 =>
  obtain ⟨x, hg⟩ := gC_some (by split <;> decide) hg1
  have hx1 := gN_some hg
  have hx2 := gE_some hg
  have hx3 := getN_in (n := x.1) (e := x.2) hg
  refine br (fun hg5 => ?y5) (fun hg5 => ?n5)
  case' y5 =>
   refine brT ?_
   refine brT ?_
   have hT := textO_none (most := most) hg (by omega)
  case' n5 =>
   refine br (fun hg8 => ?y8) (fun hg8 => ?n8)
   case' y8 =>
    refine brT ?_
    have hT := textO_none (most := most) hg (by omega)
   case' n8 =>
    refine x_len ?_
    first | refine x_sub ?_ (h := by first | exact IntWalk.i64_in _ (by ((try simp only [byD_len, List.length_append, List.length_nil, List.length_cons, List.length_map, Int.natCast_add]); omega)) | rfl) | refine x_bin rfl rfl ?_
    refine br (fun hc10 => ?y10) (fun hc10 => ?n10)
    case' y10 =>
     have hT := textO_none (most := most) hg (by omega)
    case' n10 =>
     have hT := textO_some (most := most) hg (by omega)
     have hx4 : (gE (getN b a f)).toNat = x.2 := by omega
     have hx5 : gE (getN b a f) + gN (getN b a f) = ((x.2 + x.1.toNat : Nat) : Int) := by omega
     first | refine x_inc ?_ (h := by ((try simp only [byD_len, List.length_append, List.length_nil, List.length_cons, List.length_map, Int.natCast_add]); omega)) | refine x_add ?_ (h := by first | exact IntWalk.i64_in _ (by ((try simp only [byD_len, List.length_append, List.length_nil, List.length_cons, List.length_map, Int.natCast_add]); omega)) | rfl) | refine x_bin rfl rfl ?_
     first | refine x_bnd ?_ | refine x_bndI ?_
     first | refine x_bnd ?_ | refine x_bndI ?_
     refine x_row ?_ (by first | exact one_wide | exact byD_wide _) (h1 := by ((try simp only [byD_len, List.length_append, List.length_nil, List.length_cons, List.length_map, Int.natCast_add]); omega)) (h2 := by ((try simp only [byD_len, List.length_append, List.length_nil, List.length_cons, List.length_map, Int.natCast_add]); omega)) (hy := by first | exact byD_sl (n := x.1.toNat) (by omega) | exact rfl | rfl)
     refine x_tostr Try.underlying39 Try.underlying5 Try.underlying9 (l := (b.drop (gE (getN b a f)).toNat).take x.1.toNat) ?_
     first | refine x_inc ?_ (h := by ((try simp only [byD_len, List.length_append, List.length_nil, List.length_cons, List.length_map, Int.natCast_add]); omega)) | refine x_add ?_ (h := by first | exact IntWalk.i64_in _ (by ((try simp only [byD_len, List.length_append, List.length_nil, List.length_cons, List.length_map, Int.natCast_add]); omega)) | rfl) | refine x_bin rfl rfl ?_
 all_goals (refine x_ret ?_; simp only [fitsL, fits, C.asD, and_true] <;> (rw [hT]; first | exact ⟨rfl, rfl, rfl⟩ | (rw [hx4, hx5]; exact ⟨rfl, rfl, rfl⟩) | simp [tS, tE]))

set_option maxHeartbeats 1000000 in
theorem r8putR_any (f : Int) (r : RefD) (hf : fmtF f) (h0 : inI64 r.scope) (h1 : r.group.size ≤ 1000000) (h2 : r.name.size ≤ 1000000) : Contract Try.prog 79 [.sc (.int .i64 (f)), thD 5 0 noB false 0 0 r 0] [.own 0 5 (byD (refP f r))] := by
 refine T.fn [] Try.func79 ?_
 have hpl := putN_len f h0
 have hl1 := textP_len f h1
 have hl2 := textP_len f h2
 refine brF ?_
 refine brF ?_
 refine brF ?_
 refine brF ?_
 refine brF ?_
 refine brF ?_
 refine brT ?_
 refine x_call T.en_78 (ref4Put_any f r.scope h0) ?_
 refine x_call T.en_115 (r8text_any f r.group hf h1) ?_
 first | refine x_app ?_ (by first | exact one_wide | exact byD_wide _) (hz := by first | exact byD_app _ _ | exact rfl | rfl) (h1 := by unfold maxLen; ((try simp only [byD_len, List.length_append, List.length_nil, List.length_cons, List.length_map, Int.natCast_add]); omega)) (h2 := by ((try simp only [byD_len, List.length_append, List.length_nil, List.length_cons, List.length_map, Int.natCast_add]); omega)) | refine x_appN ?_ (by first | exact one_wide | exact byD_wide _) (h1 := by unfold maxLen; ((try simp only [byD_len, List.length_append, List.length_nil, List.length_cons, List.length_map, Int.natCast_add]); omega)) (h2 := by ((try simp only [byD_len, List.length_append, List.length_nil, List.length_cons, List.length_map, Int.natCast_add]); omega))
 refine x_call T.en_115 (r8text_any f r.name hf h2) ?_
 first | refine x_app ?_ (by first | exact one_wide | exact byD_wide _) (hz := by first | exact byD_app _ _ | exact rfl | rfl) (h1 := by unfold maxLen; ((try simp only [byD_len, List.length_append, List.length_nil, List.length_cons, List.length_map, Int.natCast_add]); omega)) (h2 := by ((try simp only [byD_len, List.length_append, List.length_nil, List.length_cons, List.length_map, Int.natCast_add]); omega)) | refine x_appN ?_ (by first | exact one_wide | exact byD_wide _) (h1 := by unfold maxLen; ((try simp only [byD_len, List.length_append, List.length_nil, List.length_cons, List.length_map, Int.natCast_add]); omega)) (h2 := by ((try simp only [byD_len, List.length_append, List.length_nil, List.length_cons, List.length_map, Int.natCast_add]); omega))
 all_goals (refine x_ret ?_; simp only [fitsL, fits, C.asD, and_true] <;> (exact own_fit (by unfold refP; rw [List.append_assoc])))

set_option maxHeartbeats 1000000 in
theorem r8get0_any (b : List UInt8) (a : Nat) (f : Int) (most : Int) (hb : b.length ≤ 16000000) (ha : a ≤ b.length) : Contract Try.prog 83 [.row (byD b), .sc (.int .i64 ((a : Nat))), .sc (.int .i64 (f)), thD 0 0 noB false 0 0 noRef most] [.d (thD 0 (gN (getN b a f)) noB false 0 0 noRef most), .d (.sc (.int .i64 (gE (getN b a f)))), .d (.sc (.bool ((getN b a f).isSome)))] := by
 refine T.fn [] Try.func83 ?_
 refine brT ?_
 refine brT ?_
 refine x_call T.en_117 (ref4Get_any b a f hb ha) ?_
 refine br (fun hg3 => ?y3) (fun hg3 => ?n3)
 case' y3 =>
  have hT := gC_none hg3
  refine brT ?_
 case' n3 =>
  obtain ⟨x, hT⟩ := gC_some (by split <;> decide) hg3
  refine brF ?_
  refine brF ?_
 all_goals (refine x_ret ?_; simp only [fitsL, fits, C.asD, and_true] <;> (rw [hT]; first | exact ⟨rfl, rfl, rfl⟩ | exact ⟨rfl, rfl, trivial⟩ | exact ⟨rfl, trivial, trivial⟩ | exact ⟨rfl, trivial, rfl⟩))

set_option maxHeartbeats 1000000 in
theorem r8get6_any (b : List UInt8) (a : Nat) (f : Int) (most : Int) (hb : b.length ≤ 16000000) (ha : a ≤ b.length) : Contract Try.prog 83 [.row (byD b), .sc (.int .i64 ((a : Nat))), .sc (.int .i64 (f)), thD 6 0 noB false 0 0 noRef most] [.d (thD 6 (gN (countO b a f most)) noB false 0 0 noRef most), .d (.sc (.int .i64 (gE (countO b a f most)))), .d (.sc (.bool ((countO b a f most).isSome)))] := by
 refine T.fn [] Try.func83 ?_
 refine brF ?_
 refine brT ?_
 refine x_call T.en_117 (ref4Get_any b a f hb ha) ?_
 refine br (fun hg3 => ?y3) (fun hg3 => ?n3)
 case' y3 =>
  have hT := countO_miss (most := most) (gC_none hg3)
  refine brT ?_
 case' n3 =>
  obtain ⟨x, hg⟩ := gC_some (by split <;> decide) hg3
  have hx1 := gN_some hg
  have hx2 := gE_some hg
  refine brT ?_
  refine br (fun hg6 => ?y6) (fun hg6 => ?n6)
  case' y6 =>
   refine brT ?_
   have hT := countO_none (most := most) hg (by omega)
  case' n6 =>
   refine br (fun hc8 => ?y8) (fun hc8 => ?n8)
   case' y8 =>
    have hT := countO_none (most := most) hg (by omega)
   case' n8 =>
    have hT := countO_some (most := most) hg (by omega)
 all_goals (refine x_ret ?_; simp only [fitsL, fits, C.asD, and_true] <;> (rw [hT]; first | exact ⟨rfl, rfl, rfl⟩ | (rw [hg]; exact ⟨rfl, rfl, rfl⟩)))

set_option maxHeartbeats 1000000 in
theorem r8get1_any (b : List UInt8) (a : Nat) (f : Int) (most : Int) (hb : b.length ≤ 16000000) (ha : a ≤ b.length) : Contract Try.prog 83 [.row (byD b), .sc (.int .i64 ((a : Nat))), .sc (.int .i64 (f)), thD 1 0 noB false 0 0 noRef most] [.d (thD 1 0 (tS (textO b a f most)) false 0 0 noRef most), .d (.sc (.int .i64 (tE (textO b a f most)))), .d (.sc (.bool ((textO b a f most).isSome)))] := by
 refine T.fn [] Try.func83 ?_
 refine brF ?_
 refine brF ?_
 refine brT ?_
 refine x_call T.en_118 (r8getText_any b a f most hb ha) ?_
 all_goals (refine x_ret ?_; simp only [fitsL, fits, C.asD, and_true] <;> (first | exact ⟨rfl, rfl, rfl⟩ | rfl))

set_option maxHeartbeats 1000000 in
theorem r8get5_any (b : List UInt8) (a : Nat) (f : Int) (hb : b.length ≤ 16000000) (ha : a ≤ b.length) : Contract Try.prog 83 [.row (byD b), .sc (.int .i64 ((a : Nat))), .sc (.int .i64 (f)), thD 5 0 noB false 0 0 noRef 0] [.d (thD 5 0 noB false 0 0 (oR (refO b a f)) 0), .d (.sc (.int .i64 (tE (refO b a f)))), .d (.sc (.bool ((refO b a f).isSome)))] := by
 refine T.fn [] Try.func83 ?_
 refine brF ?_
 refine brF ?_
 refine brF ?_
 refine brF ?_
 refine brF ?_
 refine brF ?_
 refine brT ?_
 refine x_call T.en_117 (ref4Get_any b a f hb ha) ?_
 refine br (fun hc8 => ?y8) (fun hc8 => ?n8)
 case' y8 =>
  have hT : refO b a f = none := by unfold refO; rw [gC_none hc8]
 case' n8 =>
  obtain ⟨x, hg⟩ := gC_some (by split <;> decide) hc8
  have hx3 := getN_in (n := x.1) (e := x.2) hg
  rw [gE_some hg]
  rw [gN_some hg]
  refine x_call T.en_118 (r8getText_any b x.2 f 12 hb hx3.2.2.1) ?_
  refine br (fun hc9 => ?y9) (fun hc9 => ?n9)
  case' y9 =>
   have hg1 := none_of hc9
   have hT : refO b a f = none := by unfold refO; rw [hg]; simp only; rw [hg1]
  case' n9 =>
   obtain ⟨g, hg1⟩ := some_of hc9
   have hg3 := textO_le hg1
   rw [tE_some hg1]
   refine x_call T.en_118 (r8getText_any b g.2 f 12 hb hg3.2.1) ?_
   refine br (fun hc10 => ?y10) (fun hc10 => ?n10)
   case' y10 =>
    have hg2 := none_of hc10
    have hT : refO b a f = none := by unfold refO; rw [hg]; simp only; rw [hg1]; simp only; rw [hg2]
   case' n10 =>
    obtain ⟨m, hg2⟩ := some_of hc10
    have hT : refO b a f = some (⟨x.1, strL g.1, strL m.1⟩, m.2) := by unfold refO; rw [hg]; simp only; rw [hg1]; simp only; rw [hg2]
 all_goals (refine x_ret ?_; simp only [fitsL, fits, C.asD, and_true] <;> (rw [hT]; first | exact ⟨rfl, rfl, rfl⟩ | (rw [hg1, hg2]; exact ⟨rfl, rfl, rfl⟩)))
end Go.Vm
end
section
namespace Go.Vm
open Go.RowKit Go.Proofs
set_option linter.unusedVariables false
set_option linter.unusedSimpArgs false
set_option maxRecDepth 10000

set_option maxHeartbeats 1000000 in
theorem r8putT_any (f : Int) (x : ByteArray) (hf : fmtF f) (hx : x.size ≤ 1000000) : Contract Try.prog 79 [.sc (.int .i64 (f)), thD 1 0 x false 0 0 noRef 0] [.own 0 5 (byD (textP f x))] := by
 refine T.fn [] Try.func79 ?_
 refine brF ?_
 refine brF ?_
 refine brT ?_
 refine x_call T.en_115 (r8text_any f x hf hx) ?_
 all_goals (refine x_ret ?_; simp only [fitsL, fits, C.asD, and_true] <;> (exact own_fit rfl))

set_option maxHeartbeats 1000000 in
theorem ref13Text_any (f : Int) (x : ByteArray) (hf : fmtF f) (hx : x.size ≤ 1000000) : Contract Try.prog 116 [.sc (.int .i64 (f)), .sc (.string x)] [.own 0 5 (byD (textP f x))] := by
 refine T.fn [] Try.func116 ?_
 refine x_call T.en_79 (r8putT_any f x hf hx) ?_
 all_goals (refine x_ret ?_; simp only [fitsL, fits, C.asD, and_true] <;> (exact own_fit rfl))

set_option maxHeartbeats 1000000 in
theorem ref15Text_any (f : Int) (x : ByteArray) (hf : fmtF f) (hx : x.size ≤ 1000000) : Contract Try.prog 80 [.sc (.int .i64 (f)), .sc (.string x)] [.own 0 5 (byD (textP f x))] := by
 refine T.fn [] Try.func80 ?_
 refine x_call T.en_79 (r8putT_any f x hf hx) ?_
 all_goals (refine x_ret ?_; simp only [fitsL, fits, C.asD, and_true] <;> (exact own_fit rfl))

set_option maxHeartbeats 1000000 in
theorem ref13Put_any (f : Int) (x : FieldD) (hf : fmtF f) (h : OkF x) : Contract Try.prog 82 [.sc (.int .i64 (f)), fD x] [.own 0 5 (byD (fieldP f x))] := by
 refine T.fn [] Try.func82 ?_
 have hl1 := refP_len (f := f) h.scope h.group h.name
 have hl2 := putN_len f h.kind
 have hl3 := textP_len f (s := x.deft) (by have := h.deft; omega)
 have hl4 := putN_len f (n := (x.cases.length : Nat)) (by have := h.cases; omega)
 have hl5 := putN_len f h.worth
 have hd := h.deft
 have hcl := h.cases
 refine x_call T.en_79 (r8putR_any f x.at_ hf h.scope (by have := h.group; omega) (by have := h.name; omega)) ?_
 refine x_call T.en_78 (ref4Put_any f x.kind h.kind) ?_
 first | refine x_app ?_ (by first | exact one_wide | exact byD_wide _) (hz := by first | exact byD_app _ _ | exact rfl | rfl) (h1 := by unfold maxLen; ((try simp only [byD_len, List.length_append, List.length_nil, List.length_cons, List.length_map, Int.natCast_add]); omega)) (h2 := by ((try simp only [byD_len, List.length_append, List.length_nil, List.length_cons, List.length_map, Int.natCast_add]); omega)) | refine x_appN ?_ (by first | exact one_wide | exact byD_wide _) (h1 := by unfold maxLen; ((try simp only [byD_len, List.length_append, List.length_nil, List.length_cons, List.length_map, Int.natCast_add]); omega)) (h2 := by ((try simp only [byD_len, List.length_append, List.length_nil, List.length_cons, List.length_map, Int.natCast_add]); omega))
 refine x_call T.en_116 (ref13Text_any f x.deft hf (by omega)) ?_
 first | refine x_app ?_ (by first | exact one_wide | exact byD_wide _) (hz := by first | exact byD_app _ _ | exact rfl | rfl) (h1 := by unfold maxLen; ((try simp only [byD_len, List.length_append, List.length_nil, List.length_cons, List.length_map, Int.natCast_add]); omega)) (h2 := by ((try simp only [byD_len, List.length_append, List.length_nil, List.length_cons, List.length_map, Int.natCast_add]); omega)) | refine x_appN ?_ (by first | exact one_wide | exact byD_wide _) (h1 := by unfold maxLen; ((try simp only [byD_len, List.length_append, List.length_nil, List.length_cons, List.length_map, Int.natCast_add]); omega)) (h2 := by ((try simp only [byD_len, List.length_append, List.length_nil, List.length_cons, List.length_map, Int.natCast_add]); omega))
 refine x_len ?_
 refine x_call T.en_78 (ref4Put_any f (x.cases.length : Nat) (by omega)) ?_
 first | refine x_app ?_ (by first | exact one_wide | exact byD_wide _) (hz := by first | exact byD_app _ _ | exact rfl | rfl) (h1 := by unfold maxLen; ((try simp only [byD_len, List.length_append, List.length_nil, List.length_cons, List.length_map, Int.natCast_add]); omega)) (h2 := by ((try simp only [byD_len, List.length_append, List.length_nil, List.length_cons, List.length_map, Int.natCast_add]); omega)) | refine x_appN ?_ (by first | exact one_wide | exact byD_wide _) (h1 := by unfold maxLen; ((try simp only [byD_len, List.length_append, List.length_nil, List.length_cons, List.length_map, Int.natCast_add]); omega)) (h2 := by ((try simp only [byD_len, List.length_append, List.length_nil, List.length_cons, List.length_map, Int.natCast_add]); omega))
 refine xloopR (fb := []) T.ok (Nat.le_of_ble_eq_true rfl) [0, 3] (fun (k : Nat) => [(6, .c (.d (.sc (.int .i64 (k : Nat))))), (5, .c (.own 11 5 (byD ((((refP f x.at_ ++ putN f x.kind) ++ textP f x.deft) ++ putN f (x.cases.length : Nat)) ++ textsP f (x.cases.take k)))))]) (fun k => k ≤ x.cases.length) (fun k => x.cases.length - k) 0 (Nat.zero_le _) (x_ent (by first | rfl | (simp only [Tr.get]; simp; done)) (x_ent (by simp only [Tr.get]; simp [textsP, pairsB]) trivial)) ?_
 rintro k hk
 have htl := textsP_takeL (f := f) (k := k) h.cases h.each
 refine x_len ?_
 refine br (fun hc1 => ?y1) (fun hc1 => ?n1)
 case' y1 =>
  obtain ⟨p, hp⟩ := elem_at hc1
  have hkl := lt_len hp
  have hps := h.each p (List.mem_of_getElem? hp)
  have hpl := textP_len f (s := p) (by omega)
  first | refine x_ix (by exact mapAt hp) ?_ | refine x_ixI (by exact mapAt hp) ?_
  refine x_call T.en_116 (ref13Text_any f p hf (by omega)) ?_
  first | refine x_app ?_ (by first | exact one_wide | exact byD_wide _) (hz := by first | exact byD_app _ _ | exact rfl | rfl) (h1 := by unfold maxLen; ((try simp only [byD_len, List.length_append, List.length_nil, List.length_cons, List.length_map, Int.natCast_add]); omega)) (h2 := by ((try simp only [byD_len, List.length_append, List.length_nil, List.length_cons, List.length_map, Int.natCast_add]); omega)) | refine x_appN ?_ (by first | exact one_wide | exact byD_wide _) (h1 := by unfold maxLen; ((try simp only [byD_len, List.length_append, List.length_nil, List.length_cons, List.length_map, Int.natCast_add]); omega)) (h2 := by ((try simp only [byD_len, List.length_append, List.length_nil, List.length_cons, List.length_map, Int.natCast_add]); omega))
  first | refine x_inc ?_ (h := by ((try simp only [byD_len, List.length_append, List.length_nil, List.length_cons, List.length_map, Int.natCast_add]); omega)) | refine x_add ?_ (h := by first | exact IntWalk.i64_in _ (by ((try simp only [byD_len, List.length_append, List.length_nil, List.length_cons, List.length_map, Int.natCast_add]); omega)) | rfl) | refine x_bin rfl rfl ?_
  refine x_rnd (k + 1) (lt_len hp) (by (try dsimp only); have := lt_len hp; omega) rfl (x_ent (by first | rfl | (simp only [Tr.get]; simp; done)) (x_ent (by simp only [Tr.get]; rw [textsP_take hp]; simp) trivial)) rfl
 case' n1 =>
  have hend : x.cases.take k = x.cases := List.take_of_length_le (past_end hc1)
  refine x_call T.en_78 (ref4Put_any f x.worth h.worth) ?_
  first | refine x_app ?_ (by first | exact one_wide | exact byD_wide _) (hz := by first | exact byD_app _ _ | exact rfl | rfl) (h1 := by unfold maxLen; ((try simp only [byD_len, List.length_append, List.length_nil, List.length_cons, List.length_map, Int.natCast_add]); omega)) (h2 := by ((try simp only [byD_len, List.length_append, List.length_nil, List.length_cons, List.length_map, Int.natCast_add]); omega)) | refine x_appN ?_ (by first | exact one_wide | exact byD_wide _) (h1 := by unfold maxLen; ((try simp only [byD_len, List.length_append, List.length_nil, List.length_cons, List.length_map, Int.natCast_add]); omega)) (h2 := by ((try simp only [byD_len, List.length_append, List.length_nil, List.length_cons, List.length_map, Int.natCast_add]); omega))
 all_goals (refine x_ret ?_; simp only [fitsL, fits, C.asD, and_true] <;> (refine own_fit ?_; rw [hend]; unfold fieldP; simp [byD]))

set_option maxHeartbeats 1000000 in
theorem ref15Pairs_any (f : Int) (l : List (ByteArray × ByteArray)) (hf : fmtF f) (hl : l.length ≤ 20) (h : ∀ t ∈ l, t.1.size ≤ 200 ∧ t.2.size ≤ 200) : Contract Try.prog 81 [.sc (.int .i64 (f)), .row (l.map pairD)] [.own 0 5 (byD (pairsP f l))] := by
 refine T.fn [] Try.func81 ?_
 have hl4 := putN_len f (n := (l.length : Nat)) (by omega)
 refine x_len ?_
 refine x_call T.en_78 (ref4Put_any f (l.length : Nat) (by omega)) ?_
 refine xloopR (fb := []) T.ok (Nat.le_of_ble_eq_true rfl) [0, 1] (fun (k : Nat) => [(6, .c (.d (.sc (.int .i64 (k : Nat))))), (5, .c (.own 10 5 (byD (putN f (l.length : Nat) ++ pairsB f (l.take k)))))]) (fun k => k ≤ l.length) (fun k => l.length - k) 0 (Nat.zero_le _) (x_ent (by first | rfl | (simp only [Tr.get]; simp; done)) (x_ent (by simp only [Tr.get]; simp [textsP, pairsB]) trivial)) ?_
 rintro k hk
 have htl := pairsB_takeL (f := f) (k := k) hl h
 refine x_len ?_
 refine br (fun hc1 => ?y1) (fun hc1 => ?n1)
 case' y1 =>
  obtain ⟨p, hp⟩ := elem_at hc1
  have hkl := lt_len hp
  have hps := h p (List.mem_of_getElem? hp)
  have hpl := textP_len f (s := p.1) (by omega)
  have hpl2 := textP_len f (s := p.2) (by omega)
  first | refine x_ix (by exact mapAt hp) ?_ | refine x_ixI (by exact mapAt hp) ?_
  refine x_call T.en_80 (ref15Text_any f p.1 hf (by omega)) ?_
  first | refine x_app ?_ (by first | exact one_wide | exact byD_wide _) (hz := by first | exact byD_app _ _ | exact rfl | rfl) (h1 := by unfold maxLen; ((try simp only [byD_len, List.length_append, List.length_nil, List.length_cons, List.length_map, Int.natCast_add]); omega)) (h2 := by ((try simp only [byD_len, List.length_append, List.length_nil, List.length_cons, List.length_map, Int.natCast_add]); omega)) | refine x_appN ?_ (by first | exact one_wide | exact byD_wide _) (h1 := by unfold maxLen; ((try simp only [byD_len, List.length_append, List.length_nil, List.length_cons, List.length_map, Int.natCast_add]); omega)) (h2 := by ((try simp only [byD_len, List.length_append, List.length_nil, List.length_cons, List.length_map, Int.natCast_add]); omega))
  first | refine x_ix (by exact mapAt hp) ?_ | refine x_ixI (by exact mapAt hp) ?_
  refine x_call T.en_80 (ref15Text_any f p.2 hf (by omega)) ?_
  first | refine x_app ?_ (by first | exact one_wide | exact byD_wide _) (hz := by first | exact byD_app _ _ | exact rfl | rfl) (h1 := by unfold maxLen; ((try simp only [byD_len, List.length_append, List.length_nil, List.length_cons, List.length_map, Int.natCast_add]); omega)) (h2 := by ((try simp only [byD_len, List.length_append, List.length_nil, List.length_cons, List.length_map, Int.natCast_add]); omega)) | refine x_appN ?_ (by first | exact one_wide | exact byD_wide _) (h1 := by unfold maxLen; ((try simp only [byD_len, List.length_append, List.length_nil, List.length_cons, List.length_map, Int.natCast_add]); omega)) (h2 := by ((try simp only [byD_len, List.length_append, List.length_nil, List.length_cons, List.length_map, Int.natCast_add]); omega))
  first | refine x_inc ?_ (h := by ((try simp only [byD_len, List.length_append, List.length_nil, List.length_cons, List.length_map, Int.natCast_add]); omega)) | refine x_add ?_ (h := by first | exact IntWalk.i64_in _ (by ((try simp only [byD_len, List.length_append, List.length_nil, List.length_cons, List.length_map, Int.natCast_add]); omega)) | rfl) | refine x_bin rfl rfl ?_
  refine x_rnd (k + 1) (lt_len hp) (by (try dsimp only); have := lt_len hp; omega) rfl (x_ent (by first | rfl | (simp only [Tr.get]; simp; done)) (x_ent (by simp only [Tr.get]; rw [pairsB_take hp]; simp) trivial)) rfl
 case' n1 =>
  have hend : l.take k = l := List.take_of_length_le (past_end hc1)
 all_goals (refine x_ret ?_; simp only [fitsL, fits, C.asD, and_true] <;> (refine own_fit ?_; rw [hend]; unfold pairsP; simp [byD]))

set_option maxHeartbeats 1000000 in
theorem ref15Put_any (f : Int) (x : LensD) (hf : fmtF f) (h : OkB x) : Contract Try.prog 21 [.sc (.int .i64 (f)), lD x] [.own 0 5 (byD (lensP f x))] := by
 refine T.fn [] Try.func21 ?_
 have hl0 := putN_len f h.kind
 have hl1 := refP_len (f := f) h.scope h.group h.rname
 have hl2 := textP_len f (s := x.name) (by have := h.name; omega)
 have hl3 := textP_len f (s := x.other) (by have := h.other; omega)
 have hl4 := putN_len f h.factor
 have hl5 := pairsP_len (f := f) h.forth h.feach
 have hl6 := pairsP_len (f := f) h.back h.beach
 have hl7 := fieldP_len (f := f) h.field
 have hd1 := h.name
 have hd2 := h.other
 refine x_call T.en_78 (ref4Put_any f x.kind h.kind) ?_
 refine x_call T.en_79 (r8putR_any f x.at_ hf h.scope (by have := h.group; omega) (by have := h.rname; omega)) ?_
 first | refine x_app ?_ (by first | exact one_wide | exact byD_wide _) (hz := by first | exact byD_app _ _ | exact rfl | rfl) (h1 := by unfold maxLen; ((try simp only [byD_len, List.length_append, List.length_nil, List.length_cons, List.length_map, Int.natCast_add]); omega)) (h2 := by ((try simp only [byD_len, List.length_append, List.length_nil, List.length_cons, List.length_map, Int.natCast_add]); omega)) | refine x_appN ?_ (by first | exact one_wide | exact byD_wide _) (h1 := by unfold maxLen; ((try simp only [byD_len, List.length_append, List.length_nil, List.length_cons, List.length_map, Int.natCast_add]); omega)) (h2 := by ((try simp only [byD_len, List.length_append, List.length_nil, List.length_cons, List.length_map, Int.natCast_add]); omega))
 refine x_call T.en_80 (ref15Text_any f x.name hf (by omega)) ?_
 first | refine x_app ?_ (by first | exact one_wide | exact byD_wide _) (hz := by first | exact byD_app _ _ | exact rfl | rfl) (h1 := by unfold maxLen; ((try simp only [byD_len, List.length_append, List.length_nil, List.length_cons, List.length_map, Int.natCast_add]); omega)) (h2 := by ((try simp only [byD_len, List.length_append, List.length_nil, List.length_cons, List.length_map, Int.natCast_add]); omega)) | refine x_appN ?_ (by first | exact one_wide | exact byD_wide _) (h1 := by unfold maxLen; ((try simp only [byD_len, List.length_append, List.length_nil, List.length_cons, List.length_map, Int.natCast_add]); omega)) (h2 := by ((try simp only [byD_len, List.length_append, List.length_nil, List.length_cons, List.length_map, Int.natCast_add]); omega))
 refine x_call T.en_80 (ref15Text_any f x.other hf (by omega)) ?_
 first | refine x_app ?_ (by first | exact one_wide | exact byD_wide _) (hz := by first | exact byD_app _ _ | exact rfl | rfl) (h1 := by unfold maxLen; ((try simp only [byD_len, List.length_append, List.length_nil, List.length_cons, List.length_map, Int.natCast_add]); omega)) (h2 := by ((try simp only [byD_len, List.length_append, List.length_nil, List.length_cons, List.length_map, Int.natCast_add]); omega)) | refine x_appN ?_ (by first | exact one_wide | exact byD_wide _) (h1 := by unfold maxLen; ((try simp only [byD_len, List.length_append, List.length_nil, List.length_cons, List.length_map, Int.natCast_add]); omega)) (h2 := by ((try simp only [byD_len, List.length_append, List.length_nil, List.length_cons, List.length_map, Int.natCast_add]); omega))
 refine x_call T.en_78 (ref4Put_any f x.factor h.factor) ?_
 first | refine x_app ?_ (by first | exact one_wide | exact byD_wide _) (hz := by first | exact byD_app _ _ | exact rfl | rfl) (h1 := by unfold maxLen; ((try simp only [byD_len, List.length_append, List.length_nil, List.length_cons, List.length_map, Int.natCast_add]); omega)) (h2 := by ((try simp only [byD_len, List.length_append, List.length_nil, List.length_cons, List.length_map, Int.natCast_add]); omega)) | refine x_appN ?_ (by first | exact one_wide | exact byD_wide _) (h1 := by unfold maxLen; ((try simp only [byD_len, List.length_append, List.length_nil, List.length_cons, List.length_map, Int.natCast_add]); omega)) (h2 := by ((try simp only [byD_len, List.length_append, List.length_nil, List.length_cons, List.length_map, Int.natCast_add]); omega))
 refine x_call T.en_81 (ref15Pairs_any f x.forth hf h.forth h.feach) ?_
 first | refine x_app ?_ (by first | exact one_wide | exact byD_wide _) (hz := by first | exact byD_app _ _ | exact rfl | rfl) (h1 := by unfold maxLen; ((try simp only [byD_len, List.length_append, List.length_nil, List.length_cons, List.length_map, Int.natCast_add]); omega)) (h2 := by ((try simp only [byD_len, List.length_append, List.length_nil, List.length_cons, List.length_map, Int.natCast_add]); omega)) | refine x_appN ?_ (by first | exact one_wide | exact byD_wide _) (h1 := by unfold maxLen; ((try simp only [byD_len, List.length_append, List.length_nil, List.length_cons, List.length_map, Int.natCast_add]); omega)) (h2 := by ((try simp only [byD_len, List.length_append, List.length_nil, List.length_cons, List.length_map, Int.natCast_add]); omega))
 refine x_call T.en_81 (ref15Pairs_any f x.back hf h.back h.beach) ?_
 first | refine x_app ?_ (by first | exact one_wide | exact byD_wide _) (hz := by first | exact byD_app _ _ | exact rfl | rfl) (h1 := by unfold maxLen; ((try simp only [byD_len, List.length_append, List.length_nil, List.length_cons, List.length_map, Int.natCast_add]); omega)) (h2 := by ((try simp only [byD_len, List.length_append, List.length_nil, List.length_cons, List.length_map, Int.natCast_add]); omega)) | refine x_appN ?_ (by first | exact one_wide | exact byD_wide _) (h1 := by unfold maxLen; ((try simp only [byD_len, List.length_append, List.length_nil, List.length_cons, List.length_map, Int.natCast_add]); omega)) (h2 := by ((try simp only [byD_len, List.length_append, List.length_nil, List.length_cons, List.length_map, Int.natCast_add]); omega))
 refine br (fun hg1 => ?y1) (fun hg1 => ?n1)
 case' y1 =>
  refine brT ?_
  refine x_call T.en_82 (ref13Put_any f x.field hf h.field) ?_
  first | refine x_app ?_ (by first | exact one_wide | exact byD_wide _) (hz := by first | exact byD_app _ _ | exact rfl | rfl) (h1 := by unfold maxLen; ((try simp only [byD_len, List.length_append, List.length_nil, List.length_cons, List.length_map, Int.natCast_add]); omega)) (h2 := by ((try simp only [byD_len, List.length_append, List.length_nil, List.length_cons, List.length_map, Int.natCast_add]); omega)) | refine x_appN ?_ (by first | exact one_wide | exact byD_wide _) (h1 := by unfold maxLen; ((try simp only [byD_len, List.length_append, List.length_nil, List.length_cons, List.length_map, Int.natCast_add]); omega)) (h2 := by ((try simp only [byD_len, List.length_append, List.length_nil, List.length_cons, List.length_map, Int.natCast_add]); omega))
 case' n1 =>
  refine br (fun hc3 => ?y3) (fun hc3 => ?n3)
  case' y3 =>
   refine x_call T.en_82 (ref13Put_any f x.field hf h.field) ?_
   first | refine x_app ?_ (by first | exact one_wide | exact byD_wide _) (hz := by first | exact byD_app _ _ | exact rfl | rfl) (h1 := by unfold maxLen; ((try simp only [byD_len, List.length_append, List.length_nil, List.length_cons, List.length_map, Int.natCast_add]); omega)) (h2 := by ((try simp only [byD_len, List.length_append, List.length_nil, List.length_cons, List.length_map, Int.natCast_add]); omega)) | refine x_appN ?_ (by first | exact one_wide | exact byD_wide _) (h1 := by unfold maxLen; ((try simp only [byD_len, List.length_append, List.length_nil, List.length_cons, List.length_map, Int.natCast_add]); omega)) (h2 := by ((try simp only [byD_len, List.length_append, List.length_nil, List.length_cons, List.length_map, Int.natCast_add]); omega))
 all_goals (refine x_ret ?_; simp only [fitsL, fits, C.asD, and_true] <;> (refine own_fit ?_; unfold lensP; first | (rw [if_pos (by omega)]; simp [byD]; done) | (rw [if_neg (by omega)]; simp [byD]; done)))
end Go.Vm
end
section
namespace Go.Vm
open Go.RowKit Go.Proofs
set_option linter.unusedVariables false
set_option linter.unusedSimpArgs false
set_option maxRecDepth 10000

theorem pair_snoc {l : List (ByteArray × ByteArray)} {t u : ByteArray} : l.map pairD ++ [pairD (t, u)] = (l ++ [(t, u)]).map pairD := by simp
theorem fieldO_len {b : List UInt8} {a : Nat} {f : Int} {x : FieldD × Nat} (h : fieldO b a f = some x) : x.1.cases.length ≤ 6 := by
  unfold fieldO at h
  split at h
  · cases h
  split at h
  · cases h
  split at h
  · cases h
  split at h
  · cases h
  rename_i n hn
  have l4 := countO_le hn
  split at h
  · cases h
  rename_i l hl
  split at h
  · cases h
  split at h
  · injection h with h; subst h
    have := (textsO_le l4.2.1 hl).2.2
    show l.1.length ≤ 6
    omega
  · cases h

set_option maxHeartbeats 1000000 in
theorem ref13Get_any (b : List UInt8) (a : Nat) (f : Int) (hb : b.length ≤ 16000000) (ha : a ≤ b.length) : Contract Try.prog 85 [.row (byD b), .sc (.int .i64 ((a : Nat))), .sc (.int .i64 (f))] [.d (fD (oF (fieldO b a f))), .d (.sc (.int .i64 (tE (fieldO b a f)))), .d (.sc (.bool ((fieldO b a f).isSome)))] := by
 refine T.fn [2009, 2075, 2099, 2103] Try.func85 ?_
 refine x_allocU [] (zI_ok (T.ok 26 _ rfl) rfl) (by simp) (by simp) ?_
 refine x_call T.en_83 (r8get5_any b a f hb ha) ?_
 refine br (fun hc1 => ?y1) (fun hc1 => ?n1)
 case' y1 =>
  have g1 := none_of hc1
  have hT : fieldO b a f = none := by unfold fieldO; rw [g1]
 case' n1 =>
  obtain ⟨r, g1⟩ := some_of hc1
  rw [g1]
  have l1 := refO_le g1
  refine x_call T.en_83 (r8get0_any b r.2 f 0 hb l1.2) ?_
  refine br (fun hc2 => ?y2) (fun hc2 => ?n2)
  case' y2 =>
   have g2 := none_of hc2
   have hT : fieldO b a f = none := by unfold fieldO; rw [g1]; simp only; rw [g2]
  case' n2 =>
   obtain ⟨k, g2⟩ := some_of hc2
   rw [g2]
   have l2 := getN_in (n := k.1) (e := k.2) g2
   refine x_call T.en_83 (r8get1_any b k.2 f 40 hb l2.2.2.1) ?_
   refine br (fun hc3 => ?y3) (fun hc3 => ?n3)
   case' y3 =>
    have g3 := none_of hc3
    have hT : fieldO b a f = none := by unfold fieldO; rw [g1]; simp only; rw [g2]; simp only; rw [g3]
   case' n3 =>
    obtain ⟨dd, g3⟩ := some_of hc3
    rw [g3]
    have l3 := textO_le g3
    refine x_call T.en_83 (r8get6_any b dd.2 f 6 hb l3.2.1) ?_
    refine br (fun hc4 => ?y4) (fun hc4 => ?n4)
    case' y4 =>
     have g4 := none_of hc4
     have hT : fieldO b a f = none := by unfold fieldO; rw [g1]; simp only; rw [g2]; simp only; rw [g3]; simp only; rw [g4]
    case' n4 =>
     obtain ⟨n, g4⟩ := some_of hc4
     rw [g4]
     have l4 := countO_le g4
     refine x_buildU [(5, 500009, 1)] (T.ok 26 _ rfl) (by simp only [List.mem_singleton, forall_eq]; exact ⟨rfl, by decide, by decide⟩) (by simp only [List.mem_singleton, forall_eq]; decide) ?_
     refine xloopR (fb := [2009, 2075, 2099, 2103]) T.ok (Nat.le_of_ble_eq_true rfl) [0, 2, 6, 13, 15] (fun (s : Nat × List ByteArray × Nat) => [(16, .c (.d (.sc (.int .i64 (((s.1 : Nat) : Int)))))), (11, .c (.d (.sc (.int .i64 (((s.2.2 : Nat) : Int)))))), (9, .ubox [.sc (.int .i64 r.1.scope), .sc (.string r.1.group), .sc (.string r.1.name), .sc (.int .i64 0), .sc (.string (strL dd.1)), .rr 500009 1 s.1, .sc (.int .i64 0)]), (500009, .gbox 1 (s.2.1.map strD))]) (fun s => s.1 ≤ n.1.toNat ∧ textsO b f s.1 n.2 = some s.2) (fun s => n.1.toNat - s.1) (0, [], n.2) ⟨Nat.zero_le _, rfl⟩ (x_ent (by first | rfl | (simp only [Tr.get]; simp; done)) (x_ent (by first | rfl | (simp only [Tr.get]; simp; done)) (x_ent (by first | rfl | (simp only [Tr.get]; simp; done)) (x_ent (by first | rfl | (simp only [Tr.get]; simp; done)) trivial)))) ?_
     rintro s ⟨hk, hi⟩
     have hlo := textsO_le l4.2.1 hi
     have hsl := hlo.2.2
     refine br (fun hc5 => ?y5) (fun hc5 => ?n5)
     case' y5 =>
      have hlt : s.1 < n.1.toNat := by have h9 : ((s.1 : Nat) : Int) < n.1 := hc5; omega
      refine x_call T.en_83 (r8get1_any b s.2.2 f 12 hb hlo.2.1) ?_
      refine br (fun hc6 => ?y6) (fun hc6 => ?n6)
      case' y6 =>
       have g5 := none_of hc6
       have gl := textsO_none (textsO_stop hi g5) (show s.1 + 1 ≤ n.1.toNat by omega)
       have hT : fieldO b a f = none := by unfold fieldO; rw [g1]; simp only; rw [g2]; simp only; rw [g3]; simp only; rw [g4]; simp only; rw [gl]
      case' n6 =>
       obtain ⟨t, g5⟩ := some_of hc6
       rw [g5]
       refine x_appG (id := 500009) (n := s.1) (xs := s.2.1.map strD) (ys := [strD (strL t.1)]) (zs := (s.2.1 ++ [strL t.1]).map strD) (m := s.1 + 1) (T.ok 24 _ rfl).2.1 rfl rfl rfl (by simp [hsl]) (by simp [D.cells, strD]) (by simp only [List.length_cons, List.length_nil]; unfold maxLen; omega) (by simp only [List.length_cons, List.length_nil]; omega) (by simp) rfl ?_
       first | refine x_inc ?_ (h := by (omega)) | refine x_add ?_ (h := by first | exact IntWalk.i64_in _ (by (omega)) | rfl) | refine x_bin rfl rfl ?_
       refine x_rnd (s.1 + 1, s.2.1 ++ [strL t.1], t.2) ⟨by (try dsimp only); omega, textsO_next hi g5⟩ (by (try dsimp only); omega) rfl (x_ent (by first | rfl | (simp only [Tr.get]; simp; done)) (x_ent (by first | rfl | (simp only [Tr.get]; simp; done)) (x_ent (by first | rfl | (simp only [Tr.get]; simp; done)) (x_ent (by first | rfl | (simp only [Tr.get]; simp; done)) trivial)))) rfl
     case' n5 =>
      have hge : s.1 = n.1.toNat := by have h9 : ¬ ((s.1 : Nat) : Int) < n.1 := hc5; omega
      rw [hge] at hi
      refine x_frU (tv := 9) (id := 500009) (cs' := [.sc (.int .i64 r.1.scope), .sc (.string r.1.group), .sc (.string r.1.name), .sc (.int .i64 0), .sc (.string (strL dd.1)), .row (s.2.1.map strD), .sc (.int .i64 0)]) rfl rfl (by simp [frzC, hsl]) rfl ?_
      refine x_call T.en_83 (r8get0_any b s.2.2 f 0 hb hlo.2.1) ?_
      refine br (fun hg7 => ?y7) (fun hg7 => ?n7)
      case' y7 =>
       have g6 := none_of hg7
       have hT : fieldO b a f = none := by unfold fieldO; rw [g1]; simp only; rw [g2]; simp only; rw [g3]; simp only; rw [g4]; simp only; rw [hi]; simp only; rw [g6]
       refine brT ?_
       refine brT ?_
      case' n7 =>
       obtain ⟨w, g6⟩ := some_of hg7
       rw [g6]
       have hfo : fieldO b a f = if rightF ⟨r.1, k.1, strL dd.1, s.2.1, w.1⟩ = true then some (⟨r.1, k.1, strL dd.1, s.2.1, w.1⟩, w.2) else none := by unfold fieldO; rw [g1]; simp only; rw [g2]; simp only; rw [g3]; simp only; rw [g4]; simp only; rw [hi]; simp only; rw [g6]
       refine br (fun hg10 => ?y10) (fun hg10 => ?n10)
       case' y10 =>
        refine brT ?_
        have hT : fieldO b a f = none := by rw [hfo, if_neg]; intro e; have h9 : 1 ≤ k.1 ∧ k.1 ≤ 4 := rightF_kind e; have h8 : k.1 < 1 ∨ 4 < k.1 := (by first | exact .inl (by assumption) | exact .inr (by assumption)); omega
       case' n10 =>
        refine br (fun hc12 => ?y12) (fun hc12 => ?n12)
        case' y12 =>
         have hT : fieldO b a f = none := by rw [hfo, if_neg]; intro e; have h9 : 1 ≤ k.1 ∧ k.1 ≤ 4 := rightF_kind e; have h8 : k.1 < 1 ∨ 4 < k.1 := (by first | exact .inl (by assumption) | exact .inr (by assumption)); omega
        case' n12 =>
         refine x_call T.en_45 (refFieldRight_any ⟨r.1, k.1, strL dd.1, s.2.1, w.1⟩ (by show s.2.1.length ≤ 1000000; omega)) ?_
         refine br (fun hc13 => ?y13) (fun hc13 => ?n13)
         case' y13 =>
          have hT : fieldO b a f = none := by rw [hfo, if_neg (by simp_all)]
         case' n13 =>
          have hT : fieldO b a f = some (⟨r.1, k.1, strL dd.1, s.2.1, w.1⟩, w.2) := by rw [hfo, if_pos (by simp_all)]
 all_goals (refine x_ret ?_; simp only [fitsL, fits, C.asD, and_true] <;> (rw [hT]; first | exact ⟨rfl, rfl, rfl⟩ | exact ⟨rfl, rfl, trivial⟩ | exact ⟨rfl, trivial, trivial⟩ | exact ⟨rfl, trivial, rfl⟩))

set_option maxHeartbeats 1000000 in
theorem readPairs_any (b : List UInt8) (a : Nat) (f : Int) (hb : b.length ≤ 16000000) (ha : a ≤ b.length) : Contract Try.prog 84 [.row (byD b), .sc (.int .i64 ((a : Nat))), .sc (.int .i64 (f))] [.d (.row ((oP (pairsO b a f)).map pairD)), .d (.sc (.int .i64 (tE (pairsO b a f)))), .d (.sc (.bool ((pairsO b a f).isSome)))] := by
 refine T.fn [] Try.func84 ?_
 refine x_call T.en_83 (r8get6_any b a f 6 hb ha) ?_
 refine br (fun hc1 => ?y1) (fun hc1 => ?n1)
 case' y1 =>
  have g1 := none_of hc1
  have hT : pairsO b a f = none := by unfold pairsO; rw [g1]
 case' n1 =>
  obtain ⟨n, g4⟩ := some_of hc1
  rw [g4]
  have l4 := countO_le g4
  refine xloopR (fb := []) T.ok (Nat.le_of_ble_eq_true rfl) [0, 2, 9] (fun (s : Nat × List (ByteArray × ByteArray) × Nat) => [(13, .c (.d (.sc (.int .i64 (((s.1 : Nat) : Int)))))), (10, .c (.d (.sc (.int .i64 (((s.2.2 : Nat) : Int)))))), (12, .c (.own 31 38 ((Prod.fst (Prod.snd s)).map pairD)))]) (fun s => s.1 ≤ n.1.toNat ∧ pairLO b f s.1 n.2 = some s.2) (fun s => n.1.toNat - s.1) (0, [], n.2) ⟨Nat.zero_le _, rfl⟩ (x_ent (by first | rfl | (simp only [Tr.get]; simp; done)) (x_ent (by first | rfl | (simp only [Tr.get]; simp; done)) (x_ent (by first | rfl | (simp only [Tr.get]; simp; done)) trivial))) ?_
  rintro s ⟨hk, hi⟩
  have hlo := pairLO_le l4.2.1 hi
  have hsl := hlo.2.2
  refine br (fun hc2 => ?y2) (fun hc2 => ?n2)
  case' y2 =>
   have hlt : s.1 < n.1.toNat := by have h9 : ((s.1 : Nat) : Int) < n.1 := hc2; omega
   refine x_call T.en_83 (r8get1_any b s.2.2 f 12 hb hlo.2.1) ?_
   refine br (fun hc3 => ?y3) (fun hc3 => ?n3)
   case' y3 =>
    have g5 := none_of hc3
    have gl := pairLO_none (pairLO_stop hi g5) (show s.1 + 1 ≤ n.1.toNat by omega)
    have hT : pairsO b a f = none := by unfold pairsO; rw [g4]; simp only; rw [gl]
   case' n3 =>
    obtain ⟨t, g5⟩ := some_of hc3
    rw [g5]
    have l5 := textO_le g5
    refine x_call T.en_83 (r8get1_any b t.2 f 12 hb l5.2.1) ?_
    refine br (fun hc4 => ?y4) (fun hc4 => ?n4)
    case' y4 =>
     have g6 := none_of hc4
     have gl := pairLO_none (pairLO_stop2 hi g5 g6) (show s.1 + 1 ≤ n.1.toNat by omega)
     have hT : pairsO b a f = none := by unfold pairsO; rw [g4]; simp only; rw [gl]
    case' n4 =>
     obtain ⟨u, g6⟩ := some_of hc4
     rw [g6]
     first | refine x_app ?_ (by first | exact pairs_wide | (simp [D.cells, pairD])) (hz := by first | exact pair_snoc | exact rfl | rfl) (h1 := by unfold maxLen; ((try simp only [List.length_map, List.length_cons, List.length_nil]); omega)) (h2 := by ((try simp only [List.length_map, List.length_cons, List.length_nil]); omega)) | refine x_appN ?_ (by first | exact pairs_wide | (simp [D.cells, pairD])) (h1 := by unfold maxLen; ((try simp only [List.length_map, List.length_cons, List.length_nil]); omega)) (h2 := by ((try simp only [List.length_map, List.length_cons, List.length_nil]); omega))
     first | refine x_inc ?_ (h := by ((try simp only [List.length_map, List.length_cons, List.length_nil]); omega)) | refine x_add ?_ (h := by first | exact IntWalk.i64_in _ (by ((try simp only [List.length_map, List.length_cons, List.length_nil]); omega)) | rfl) | refine x_bin rfl rfl ?_
     refine x_rnd (s.1 + 1, s.2.1 ++ [(strL t.1, strL u.1)], u.2) ⟨by (try dsimp only); omega, pairLO_next hi g5 g6⟩ (by (try dsimp only); omega) rfl (x_ent (by first | rfl | (simp only [Tr.get]; simp; done)) (x_ent (by first | rfl | (simp only [Tr.get]; simp; done)) (x_ent (by first | rfl | (simp only [Tr.get]; simp; done)) trivial))) rfl
  case' n2 =>
   have hge : s.1 = n.1.toNat := by have h9 : ¬ ((s.1 : Nat) : Int) < n.1 := hc2; omega
   rw [hge] at hi
   have hT : pairsO b a f = some s.2 := by unfold pairsO; rw [g4]; simp only; rw [hi]
 all_goals (refine x_ret ?_; simp only [fitsL, fits, C.asD, and_true] <;> (rw [hT]; first | exact ⟨rfl, rfl, rfl⟩ | exact ⟨rfl, rfl, trivial⟩ | exact ⟨rfl, trivial, trivial⟩ | exact ⟨rfl, trivial, rfl⟩))

set_option maxHeartbeats 1000000 in
theorem ref15Get_any (b : List UInt8) (a : Nat) (f : Int) (hb : b.length ≤ 16000000) (ha : a ≤ b.length) : Contract Try.prog 23 [.row (byD b), .sc (.int .i64 ((a : Nat))), .sc (.int .i64 (f))] [.d (lD (oL (lensO b a f))), .d (.sc (.int .i64 (tE (lensO b a f)))), .d (.sc (.bool ((lensO b a f).isSome)))] := by
 refine T.fn [] Try.func23 ?_
 refine x_call T.en_83 (r8get6_any b a f 10 hb ha) ?_
 refine br (fun hc1 => ?y1) (fun hc1 => ?n1)
 case' y1 =>
  have g1 := none_of hc1
  have hT : lensO b a f = none := by unfold lensO; rw [g1]
 case' n1 =>
  obtain ⟨k, g1⟩ := some_of hc1
  rw [g1]
  have l1 := countO_le g1
  refine x_call T.en_83 (r8get5_any b k.2 f hb l1.2.1) ?_
  refine br (fun hc2 => ?y2) (fun hc2 => ?n2)
  case' y2 =>
   have g2 := none_of hc2
   have hT : lensO b a f = none := by unfold lensO; rw [g1]; simp only; rw [g2]
  case' n2 =>
   obtain ⟨r, g2⟩ := some_of hc2
   rw [g2]
   have l2 := refO_le g2
   refine x_call T.en_83 (r8get1_any b r.2 f 12 hb l2.2) ?_
   refine br (fun hc3 => ?y3) (fun hc3 => ?n3)
   case' y3 =>
    have g3 := none_of hc3
    have hT : lensO b a f = none := by unfold lensO; rw [g1]; simp only; rw [g2]; simp only; rw [g3]
   case' n3 =>
    obtain ⟨nn, g3⟩ := some_of hc3
    rw [g3]
    have l3 := textO_le g3
    refine x_call T.en_83 (r8get1_any b nn.2 f 40 hb l3.2.1) ?_
    refine br (fun hc4 => ?y4) (fun hc4 => ?n4)
    case' y4 =>
     have g4 := none_of hc4
     have hT : lensO b a f = none := by unfold lensO; rw [g1]; simp only; rw [g2]; simp only; rw [g3]; simp only; rw [g4]
    case' n4 =>
     obtain ⟨oo, g4⟩ := some_of hc4
     rw [g4]
     have l4 := textO_le g4
     refine x_call T.en_83 (r8get0_any b oo.2 f 0 hb l4.2.1) ?_
     refine br (fun hc5 => ?y5) (fun hc5 => ?n5)
     case' y5 =>
      have g5 := none_of hc5
      have hT : lensO b a f = none := by unfold lensO; rw [g1]; simp only; rw [g2]; simp only; rw [g3]; simp only; rw [g4]; simp only; rw [g5]
     case' n5 =>
      obtain ⟨xx, g5⟩ := some_of hc5
      rw [g5]
      have l5 := getN_in (n := xx.1) (e := xx.2) g5
      refine x_call T.en_84 (readPairs_any b xx.2 f hb l5.2.2.1) ?_
      refine br (fun hc6 => ?y6) (fun hc6 => ?n6)
      case' y6 =>
       have g6 := none_of hc6
       have hT : lensO b a f = none := by unfold lensO; rw [g1]; simp only; rw [g2]; simp only; rw [g3]; simp only; rw [g4]; simp only; rw [g5]; simp only; rw [g6]
      case' n6 =>
       obtain ⟨pp, g6⟩ := some_of hc6
       rw [g6]
       have l6 := pairsO_le g6
       refine x_call T.en_84 (readPairs_any b pp.2 f hb l6.2.1) ?_
       refine br (fun hc7 => ?y7) (fun hc7 => ?n7)
       case' y7 =>
        have g7 := none_of hc7
        have hT : lensO b a f = none := by unfold lensO; rw [g1]; simp only; rw [g2]; simp only; rw [g3]; simp only; rw [g4]; simp only; rw [g5]; simp only; rw [g6]; simp only; rw [g7]
       case' n7 =>
        obtain ⟨qq, g7⟩ := some_of hc7
        rw [g7]
        have l7 := pairsO_le g7
        refine br (fun hg8 => ?y8) (fun hg8 => ?n8)
        case' y8 =>
         refine brT ?_
         have hkk : k.1 = 2 ∨ k.1 = 3 := by first | exact .inl (by assumption) | exact .inr (by assumption)
         refine x_call T.en_85 (ref13Get_any b qq.2 f hb l7.2.1) ?_
         refine br (fun hc10 => ?y10) (fun hc10 => ?n10)
         case' y10 =>
          have g8 := none_of hc10
          have hT : lensO b a f = none := by unfold lensO; rw [g1]; simp only; rw [g2]; simp only; rw [g3]; simp only; rw [g4]; simp only; rw [g5]; simp only; rw [g6]; simp only; rw [g7]; simp only; rw [if_pos hkk, g8]
         case' n10 =>
          obtain ⟨d8, g8⟩ := some_of hc10
          rw [g8]
          have hlo : lensO b a f = if rightL ⟨k.1, r.1, strL nn.1, strL oo.1, xx.1, d8.1, pp.1, qq.1⟩ = true then some (⟨k.1, r.1, strL nn.1, strL oo.1, xx.1, d8.1, pp.1, qq.1⟩, d8.2) else none := by unfold lensO; rw [g1]; simp only; rw [g2]; simp only; rw [g3]; simp only; rw [g4]; simp only; rw [g5]; simp only; rw [g6]; simp only; rw [g7]; simp only; rw [if_pos hkk, g8]
          have hx0 : okX ⟨k.1, r.1, strL nn.1, strL oo.1, xx.1, d8.1, pp.1, qq.1⟩ := ⟨by show d8.1.cases.length ≤ 1000000; have := fieldO_len g8; omega, by show pp.1.length ≤ 1000; omega, by show qq.1.length ≤ 1000; omega⟩
          refine x_call T.en_8 (refLensRight_any _ hx0) ?_
          refine br (fun hc11 => ?y11) (fun hc11 => ?n11)
          case' y11 =>
           have hT : lensO b a f = none := by rw [hlo, if_neg (by simp_all)]
          case' n11 =>
           have hT : lensO b a f = some (⟨k.1, r.1, strL nn.1, strL oo.1, xx.1, d8.1, pp.1, qq.1⟩, d8.2) := by rw [hlo, if_pos (by simp_all)]
        case' n8 =>
         refine br (fun hc12 => ?y12) (fun hc12 => ?n12)
         case' y12 =>
          have hkk : k.1 = 2 ∨ k.1 = 3 := by first | exact .inl (by assumption) | exact .inr (by assumption)
          refine x_call T.en_85 (ref13Get_any b qq.2 f hb l7.2.1) ?_
          refine br (fun hc13 => ?y13) (fun hc13 => ?n13)
          case' y13 =>
           have g8 := none_of hc13
           have hT : lensO b a f = none := by unfold lensO; rw [g1]; simp only; rw [g2]; simp only; rw [g3]; simp only; rw [g4]; simp only; rw [g5]; simp only; rw [g6]; simp only; rw [g7]; simp only; rw [if_pos hkk, g8]
          case' n13 =>
           obtain ⟨d8, g8⟩ := some_of hc13
           rw [g8]
           have hlo : lensO b a f = if rightL ⟨k.1, r.1, strL nn.1, strL oo.1, xx.1, d8.1, pp.1, qq.1⟩ = true then some (⟨k.1, r.1, strL nn.1, strL oo.1, xx.1, d8.1, pp.1, qq.1⟩, d8.2) else none := by unfold lensO; rw [g1]; simp only; rw [g2]; simp only; rw [g3]; simp only; rw [g4]; simp only; rw [g5]; simp only; rw [g6]; simp only; rw [g7]; simp only; rw [if_pos hkk, g8]
           have hx0 : okX ⟨k.1, r.1, strL nn.1, strL oo.1, xx.1, d8.1, pp.1, qq.1⟩ := ⟨by show d8.1.cases.length ≤ 1000000; have := fieldO_len g8; omega, by show pp.1.length ≤ 1000; omega, by show qq.1.length ≤ 1000; omega⟩
           refine x_call T.en_8 (refLensRight_any _ hx0) ?_
           refine br (fun hc14 => ?y14) (fun hc14 => ?n14)
           case' y14 =>
            have hT : lensO b a f = none := by rw [hlo, if_neg (by simp_all)]
           case' n14 =>
            have hT : lensO b a f = some (⟨k.1, r.1, strL nn.1, strL oo.1, xx.1, d8.1, pp.1, qq.1⟩, d8.2) := by rw [hlo, if_pos (by simp_all)]
         case' n12 =>
          have hkk : ¬ (k.1 = 2 ∨ k.1 = 3) := by rintro (e | e) <;> contradiction
          have hlo : lensO b a f = if rightL ⟨k.1, r.1, strL nn.1, strL oo.1, xx.1, noField, pp.1, qq.1⟩ = true then some (⟨k.1, r.1, strL nn.1, strL oo.1, xx.1, noField, pp.1, qq.1⟩, qq.2) else none := by unfold lensO; rw [g1]; simp only; rw [g2]; simp only; rw [g3]; simp only; rw [g4]; simp only; rw [g5]; simp only; rw [g6]; simp only; rw [g7]; simp only; rw [if_neg hkk]
          have hx0 : okX ⟨k.1, r.1, strL nn.1, strL oo.1, xx.1, noField, pp.1, qq.1⟩ := ⟨by show (0 : Nat) ≤ 1000000; decide, by show pp.1.length ≤ 1000; omega, by show qq.1.length ≤ 1000; omega⟩
          refine x_call T.en_8 (refLensRight_any _ hx0) ?_
          refine br (fun hc15 => ?y15) (fun hc15 => ?n15)
          case' y15 =>
           have hT : lensO b a f = none := by rw [hlo, if_neg (by simp_all)]
          case' n15 =>
           have hT : lensO b a f = some (⟨k.1, r.1, strL nn.1, strL oo.1, xx.1, noField, pp.1, qq.1⟩, qq.2) := by rw [hlo, if_pos (by simp_all)]
 all_goals (refine x_ret ?_; simp only [fitsL, fits, C.asD, and_true] <;> (rw [hT]; first | exact ⟨rfl, rfl, rfl⟩ | exact ⟨rfl, rfl, trivial⟩ | exact ⟨rfl, trivial, trivial⟩ | exact ⟨rfl, trivial, rfl⟩))
end Go.Vm
end
section
namespace Go.Vm
open Go.RowKit Go.Proofs
set_option linter.unusedVariables false
set_option linter.unusedSimpArgs false
set_option maxRecDepth 10000

def bodyH (h : Hp) (f : Int) (p b : List UInt8) (k : Nat) : Hp := fun u => if 1000001 ≤ u ∧ u < 1000001 + k then rdS (if u = 1000001 then p else b) f (lensR (if u = 1000001 then p else b) f (0, false)).2 else h u
theorem body_zero {h : Hp} {f : Int} {p b : List UInt8} : bodyH h f p b 0 = h := by funext u; unfold bodyH; rw [if_neg (by omega)]
theorem body_free {h : Hp} {f : Int} {p b : List UInt8} {k : Nat} (hf : h (1000001 + k) = .free) : bodyH h f p b k (1000001 + k) = .free := by unfold bodyH; rw [if_neg (by omega)]; exact hf
theorem body_next {h : Hp} {f : Int} {p b r : List UInt8} {k : Nat} {x : S} (hr : (if k = 0 then p else b) = r) : hpost (hpost (bodyH h f p b k) [(1000001 + k, x)]) [(1000001 + k, rdS r f (lensR r f (0, false)).2)] = bodyH h f p b (k + 1) := by
  funext u
  simp only [hpost, hset]
  by_cases e : u = 1000001 + k
  · subst e
    simp only [if_true]
    unfold bodyH
    rw [if_pos (by omega)]
    have : (if 1000001 + k = 1000001 then p else b) = r := by rw [← hr]; by_cases h0 : k = 0 <;> simp [h0]
    rw [this]
  · simp only [if_neg e]
    unfold bodyH
    by_cases e1 : 1000001 ≤ u ∧ u < 1000001 + k
    · rw [if_pos e1, if_pos (show 1000001 ≤ u ∧ u < 1000001 + (k + 1) by omega)]
    · rw [if_neg e1, if_neg (show ¬ (1000001 ≤ u ∧ u < 1000001 + (k + 1)) by omega)]
theorem row2_at {p b r : List UInt8} {k : Nat} (hr : (if k = 0 then p else b) = r) (hk : k < 2) : [D.row (byD p), D.row (byD b)][((k : Nat) : Int).toNat]? = some (.row (byD r)) := by
  rcases (by omega : k = 0 ∨ k = 1) with rfl | rfl
  · subst hr; rfl
  · subst hr; rfl
theorem end_zero {f : Int} {l : List UInt8} (hf : fmtF f) : (if badR f (l.length, false) = true ∨ 0 < leftR l f (l.length, false) then (8 : Int) else 0) = 0 := by
  have h1 : ¬ badR f (l.length, false) = true := badR_right hf
  rw [if_neg]
  rintro (h | h)
  · exact h1 h
  · unfold leftR at h; rw [if_neg h1] at h; simp only at h; omega
theorem noLens_ok : okX noLens := ⟨by decide, by decide, by decide⟩
theorem lensR_okX {b : List UInt8} {f : Int} {s : St} : okX (lensR b f s).1 := by
  unfold lensR
  split
  · exact noLens_ok
  · split
    · exact noLens_ok
    · exact lensV_ok
theorem penNewOk_any (t : Nat) (ht : NAM ≤ t) (b : List UInt8) (f : Int) (hb : b.length ≤ 8000000) (hf : fmtF f) : ContractH Try.prog 20 [.row (byD b), .sc (.int .i64 (f))] [(t, .free)] [.d (.ptr t 0)] [(t, rdS b f (0, false))] := by
  have := penNew_any t ht b f hb
  rwa [decide_eq_true hf] at this

set_option maxHeartbeats 1000000 in
theorem lensBytes_any (x : LensD) (f : Int) (b : List UInt8) (hi : okIL x) : ContractH Try.prog 4 [lD x, .sc (.int .i64 (f)), .row (byD b)] [(1000000, .free), (1000001, .free), (1000002, .free)] [.d (.sc (.bool (true)))] [] := by
 refine T.fnH [37, 42, 43, 50, 52, 55, 59, 71, 87, 89, 99, 111] Try.func4 ?_ (by simp only [List.forall_mem_cons, List.not_mem_nil, false_implies, implies_true, and_true]; decide) (by simp [thing]) (by simp [thing])
 refine x_call T.en_6 (lensAwake_any) ?_
 refine brF ?_
 refine x_call T.en_7 (refLensHeavy_any x) ?_
 refine br (fun hg2 => ?y2) (fun hg2 => ?n2)
 case' y2 =>
  refine brT ?_
 case' n2 =>
  have hh1 : heavyL x = false := by simpa using hg2
  refine x_len ?_
  refine br (fun hc4 => ?y4) (fun hc4 => ?n4)
  case' n4 =>
   have hB := heavyL_okB hh1 hi
   have hx0 := rightL_okX hB
   have hpl := lensP_len (f := f) hB
   refine x_call T.en_18 (lensPut_any [9] f x (by decide) hB) ?_
   refine br (fun hg5 => ?y5) (fun hg5 => ?n5)
   case' y5 =>
    refine br (fun hc6 => ?y6) (fun hc6 => ?n6)
    case' y6 =>
     have hf : ¬ fmtF f := by unfold fmtF; omega
     have hlw := lensP_wrong hf x
     have hg := lensR_badS (b := b) (f := f) (s := (0, !decide (fmtF f))) (badR_wrong hf)
     refine x_tostr Try.underlying39 Try.underlying5 Try.underlying9 (l := [9] ++ (lensP f x)) ?_
     refine br (fun hg7 => ?y7) (fun hg7 => ?n7)
     case' y7 =>
      refine x_callH T.en_20 (penNew_any 1000000 (by decide) b f (by omega)) ?_ ⟨⟨(by decide), (by first | rfl | (simp only [hOf, hset, hpost, if_true, if_false, not_false_eq_true]; first | done | rfl))⟩, trivial⟩
      refine x_callH T.en_19 (lensGet_any 1000000 (by decide) b f (0, !decide (fmtF f)) (by omega) (Nat.zero_le _)) ?_ ⟨⟨(by decide), (by first | rfl | (simp only [hOf, hset, hpost, if_true, if_false, not_false_eq_true]; first | done | rfl))⟩, trivial⟩
      refine x_call T.en_10 (lensSame_any (lensR b f (0, !decide (fmtF f))).1 noLens lensR_okX) ?_
     case' n7 =>
      exact absurd (show strL ([9] ++ lensP f x) = ⟨#[9]⟩ by rw [hlw]; rfl) hg7
    case' n6 =>
     have hf : fmtF f := by unfold fmtF; omega
     have hle : (lensR (lensP f x) f (0, false)).2.1 ≤ (lensP f x).length := lensR_inv (Nat.zero_le _)
     first | refine x_bnd ?_ | refine x_bndI ?_
     refine x_row ?_ (by first | exact one_wide | exact byD_wide _) (h1 := by ((try simp only [byD_len, List.length_append, List.length_nil, List.length_cons, List.length_map, Int.natCast_add]); omega)) (h2 := by ((try simp only [byD_len, List.length_append, List.length_nil, List.length_cons, List.length_map, Int.natCast_add]); omega)) (hy := by first | exact byD_tl | exact rfl | rfl)
     refine x_callH T.en_20 (penNewOk_any 1000000 (by decide) (lensP f x) f (by omega) hf) ?_ ⟨⟨(by decide), (by first | rfl | (simp only [hOf, hset, hpost, if_true, if_false, not_false_eq_true]; first | done | rfl))⟩, trivial⟩
     refine x_callH T.en_19 (lensGet_any 1000000 (by decide) (lensP f x) f (0, false) (by omega) (Nat.zero_le _)) ?_ ⟨⟨(by decide), (by first | rfl | (simp only [hOf, hset, hpost, if_true, if_false, not_false_eq_true]; first | done | rfl))⟩, trivial⟩
     refine And.intro ⟨T.mixed, by decide +kernel⟩ ?_
     first | refine x_bnd ?_ | refine x_bndI ?_
     refine x_row ?_ (by first | exact one_wide | exact byD_wide _) (h1 := by ((try simp only [byD_len, List.length_append, List.length_nil, List.length_cons, List.length_map, Int.natCast_add]); omega)) (h2 := by ((try simp only [byD_len, List.length_append, List.length_nil, List.length_cons, List.length_map, Int.natCast_add]); omega)) (hy := by first | exact byD_tl | exact rfl | rfl)
     refine q_tostr Try.underlying39 Try.underlying5 Try.underlying9 (l := (lensP f x)) ?_
     refine x_call T.en_21 (ref15Put_any f x hf hB) ?_
     refine q_tostr Try.underlying39 Try.underlying5 Try.underlying9 (l := (lensP f x)) ?_
     refine br (fun hg8 => ?y8) (fun hg8 => ?n8)
     case' y8 =>
      exact absurd rfl hg8
     case' n8 =>
      refine x_call T.en_8 (refLensRight_any x hx0) ?_
      refine br (fun hg9 => ?y9) (fun hg9 => ?n9)
      case' y9 =>
       have hro := lens_round hf hg9
       refine x_call T.en_11 (by first | exact refLensSame_any x _ hx0 | exact refLensSame_any (lensR r f (0, false)).1 _ lensR_okX) ?_
       refine br (fun hg10 => ?y10) (fun hg10 => ?n10)
       case' y10 =>
        exact absurd (by rw [hro]) hg10
       case' n10 =>
        refine q_callR T.en_22 (end_any 1000000 (by decide) (lensP f x) f (lensR (lensP f x) f (0, false)).2 (by omega) hle) ?_ ⟨⟨(by decide), (by first | rfl | (simp only [hOf, hset, hpost, if_true, if_false, not_false_eq_true]; first | done | rfl))⟩, trivial⟩
        refine br (fun hc11 => ?y11) (fun hc11 => ?n11)
        case' y11 =>
         exact absurd (by rw [hro]; exact end_zero hf) hc11
        case' n11 =>
         first | refine x_bnd ?_ | refine x_bndI ?_
         refine x_row ?_ (by first | exact one_wide | exact byD_wide _) (h1 := by ((try simp only [byD_len, List.length_append, List.length_nil, List.length_cons, List.length_map, Int.natCast_add]); omega)) (h2 := by ((try simp only [byD_len, List.length_append, List.length_nil, List.length_cons, List.length_map, Int.natCast_add]); omega)) (hy := by first | exact byD_tl | exact rfl | rfl)
         refine x_len ?_
         refine xloop (fb := [37, 42, 43, 50, 52, 55, 59, 71, 87, 89, 99, 111]) T.ok (Nat.le_of_ble_eq_true rfl) [1, 79, 80] (fun (k : Nat) => [(81, .c (.d (.sc (.int .i64 (k : Nat)))))]) (fun k => bodyH (hpost (hpost (hOf [(1000000, .free), (1000001, .free), (1000002, .free)]) [(1000000, rdS (lensP f x) f (0, false))]) [(1000000, rdS (lensP f x) f (lensR (lensP f x) f (0, false)).2)]) f (lensP f x) b k) (fun k => k ≤ 2) (fun k => 2 - k) 0 (Nat.zero_le _) (x_ent (by first | rfl | (simp only [Tr.get]; simp; done)) trivial) body_zero ?_
         rintro k hk
         refine br (fun hc12 => ?y12) (fun hc12 => ?n12)
         case' y12 =>
          have hk2 : k < 2 := by have h9 := hc12; simp only [List.length_cons, List.length_nil] at h9; omega
          obtain ⟨r, hr⟩ : ∃ r, (if k = 0 then (lensP f x) else b) = r := ⟨_, rfl⟩
          have hrl : r.length ≤ 8000000 := by rw [← hr]; split <;> omega
          have hbo := lens_both (b := r) hf
          have hrle : (lensR r f (0, false)).2.1 ≤ r.length := lensR_inv (Nat.zero_le _)
          have hfree : bodyH (hpost (hpost (hOf [(1000000, .free), (1000001, .free), (1000002, .free)]) [(1000000, rdS (lensP f x) f (0, false))]) [(1000000, rdS (lensP f x) f (lensR (lensP f x) f (0, false)).2)]) f (lensP f x) b k (1000001 + k) = .free := body_free (by rcases (by omega : k = 0 ∨ k = 1) with rfl | rfl <;> rfl)
          first | refine x_ix (by exact row2_at hr (by omega)) ?_ | refine x_ixI (by exact row2_at hr (by omega)) ?_
          refine x_callH T.en_20 (penNewOk_any (1000001 + k) (by unfold NAM; omega) r f hrl hf) ?_ ⟨⟨(by unfold NAM; omega), hfree⟩, trivial⟩
          refine x_callH T.en_19 (lensGet_any (1000001 + k) (by unfold NAM; omega) r f (0, false) (by omega) (Nat.zero_le _)) ?_ ⟨⟨(by unfold NAM; omega), (by first | rfl | (simp only [hOf, hset, hpost, if_true, if_false, not_false_eq_true]; first | done | rfl))⟩, trivial⟩
          refine x_call T.en_23 (ref15Get_any r 0 f (by omega) (Nat.zero_le _)) ?_
          refine x_callR T.en_24 (bad_any (1000001 + k) (by unfold NAM; omega) r f (lensR r f (0, false)).2 (by omega) hrle) ?_ ⟨⟨(by unfold NAM; omega), (by first | rfl | (simp only [hOf, hset, hpost, if_true, if_false, not_false_eq_true]; first | done | rfl))⟩, trivial⟩
          first | refine x_bin (pr_eqb Try.underlying4) rfl ?_ | refine x_bin rfl rfl ?_
          refine br (fun hg13 => ?y13) (fun hg13 => ?n13)
          case' y13 =>
           exact absurd hg13 (by rw [hbo.2.1]; cases (lensO r 0 f).isSome <;> decide)
          case' n13 =>
           refine x_call T.en_11 (by first | exact refLensSame_any x _ hx0 | exact refLensSame_any (lensR r f (0, false)).1 _ lensR_okX) ?_
           refine br (fun hg14 => ?y14) (fun hg14 => ?n14)
           case' y14 =>
            exact absurd hbo.1 hg14
           case' n14 =>
            refine br (fun hg15 => ?y15) (fun hg15 => ?n15)
            case' y15 =>
             have hok := hg15
             refine x_callR T.en_25 (left_any (1000001 + k) (by unfold NAM; omega) r f (lensR r f (0, false)).2 (by omega) hrle) ?_ ⟨⟨(by unfold NAM; omega), (by first | rfl | (simp only [hOf, hset, hpost, if_true, if_false, not_false_eq_true]; first | done | rfl))⟩, trivial⟩
             refine x_len ?_
             first | refine x_sub ?_ (h := by first | exact IntWalk.i64_in _ (by ((try simp only [byD_len, List.length_append, List.length_nil, List.length_cons, List.length_map, Int.natCast_add]); omega)) | rfl) | refine x_bin rfl rfl ?_
             refine br (fun hc16 => ?y16) (fun hc16 => ?n16)
             case' y16 =>
              have h7 := hbo.2.2 hok
              have h8 := leftR_le (f := f) hrle
              rw [← h7, IntWalk.i64_in _ (by omega)] at hc16
              exact absurd rfl hc16
             case' n16 =>
              first | refine x_inc ?_ (h := by ((try simp only [byD_len, List.length_append, List.length_nil, List.length_cons, List.length_map, Int.natCast_add]); omega)) | refine x_add ?_ (h := by first | exact IntWalk.i64_in _ (by ((try simp only [byD_len, List.length_append, List.length_nil, List.length_cons, List.length_map, Int.natCast_add]); omega)) | rfl) | refine x_bin rfl rfl ?_
              refine x_rnd (k + 1) (by omega) (by (try dsimp only); omega) rfl (x_ent (by first | rfl | (simp only [Tr.get]; simp; done)) trivial) (body_next hr).symm
            case' n15 =>
             refine brF ?_
             first | refine x_inc ?_ (h := by ((try simp only [byD_len, List.length_append, List.length_nil, List.length_cons, List.length_map, Int.natCast_add]); omega)) | refine x_add ?_ (h := by first | exact IntWalk.i64_in _ (by ((try simp only [byD_len, List.length_append, List.length_nil, List.length_cons, List.length_map, Int.natCast_add]); omega)) | rfl) | refine x_bin rfl rfl ?_
             refine x_rnd (k + 1) (by omega) (by (try dsimp only); omega) rfl (x_ent (by first | rfl | (simp only [Tr.get]; simp; done)) trivial) (body_next hr).symm
      case' n9 =>
       refine brF ?_
       first | refine x_bnd ?_ | refine x_bndI ?_
       refine x_row ?_ (by first | exact one_wide | exact byD_wide _) (h1 := by ((try simp only [byD_len, List.length_append, List.length_nil, List.length_cons, List.length_map, Int.natCast_add]); omega)) (h2 := by ((try simp only [byD_len, List.length_append, List.length_nil, List.length_cons, List.length_map, Int.natCast_add]); omega)) (hy := by first | exact byD_tl | exact rfl | rfl)
       refine x_len ?_
       refine xloop (fb := [37, 42, 43, 50, 52, 55, 59, 71, 87, 89, 99, 111]) T.ok (Nat.le_of_ble_eq_true rfl) [1, 79, 80] (fun (k : Nat) => [(81, .c (.d (.sc (.int .i64 (k : Nat)))))]) (fun k => bodyH (hpost (hpost (hOf [(1000000, .free), (1000001, .free), (1000002, .free)]) [(1000000, rdS (lensP f x) f (0, false))]) [(1000000, rdS (lensP f x) f (lensR (lensP f x) f (0, false)).2)]) f (lensP f x) b k) (fun k => k ≤ 2) (fun k => 2 - k) 0 (Nat.zero_le _) (x_ent (by first | rfl | (simp only [Tr.get]; simp; done)) trivial) body_zero ?_
       rintro k hk
       refine br (fun hc19 => ?y19) (fun hc19 => ?n19)
       case' y19 =>
        have hk2 : k < 2 := by have h9 := hc19; simp only [List.length_cons, List.length_nil] at h9; omega
        obtain ⟨r, hr⟩ : ∃ r, (if k = 0 then (lensP f x) else b) = r := ⟨_, rfl⟩
        have hrl : r.length ≤ 8000000 := by rw [← hr]; split <;> omega
        have hbo := lens_both (b := r) hf
        have hrle : (lensR r f (0, false)).2.1 ≤ r.length := lensR_inv (Nat.zero_le _)
        have hfree : bodyH (hpost (hpost (hOf [(1000000, .free), (1000001, .free), (1000002, .free)]) [(1000000, rdS (lensP f x) f (0, false))]) [(1000000, rdS (lensP f x) f (lensR (lensP f x) f (0, false)).2)]) f (lensP f x) b k (1000001 + k) = .free := body_free (by rcases (by omega : k = 0 ∨ k = 1) with rfl | rfl <;> rfl)
        first | refine x_ix (by exact row2_at hr (by omega)) ?_ | refine x_ixI (by exact row2_at hr (by omega)) ?_
        refine x_callH T.en_20 (penNewOk_any (1000001 + k) (by unfold NAM; omega) r f hrl hf) ?_ ⟨⟨(by unfold NAM; omega), hfree⟩, trivial⟩
        refine x_callH T.en_19 (lensGet_any (1000001 + k) (by unfold NAM; omega) r f (0, false) (by omega) (Nat.zero_le _)) ?_ ⟨⟨(by unfold NAM; omega), (by first | rfl | (simp only [hOf, hset, hpost, if_true, if_false, not_false_eq_true]; first | done | rfl))⟩, trivial⟩
        refine x_call T.en_23 (ref15Get_any r 0 f (by omega) (Nat.zero_le _)) ?_
        refine x_callR T.en_24 (bad_any (1000001 + k) (by unfold NAM; omega) r f (lensR r f (0, false)).2 (by omega) hrle) ?_ ⟨⟨(by unfold NAM; omega), (by first | rfl | (simp only [hOf, hset, hpost, if_true, if_false, not_false_eq_true]; first | done | rfl))⟩, trivial⟩
        first | refine x_bin (pr_eqb Try.underlying4) rfl ?_ | refine x_bin rfl rfl ?_
        refine br (fun hg20 => ?y20) (fun hg20 => ?n20)
        case' y20 =>
         exact absurd hg20 (by rw [hbo.2.1]; cases (lensO r 0 f).isSome <;> decide)
        case' n20 =>
         refine x_call T.en_11 (by first | exact refLensSame_any x _ hx0 | exact refLensSame_any (lensR r f (0, false)).1 _ lensR_okX) ?_
         refine br (fun hg21 => ?y21) (fun hg21 => ?n21)
         case' y21 =>
          exact absurd hbo.1 hg21
         case' n21 =>
          refine br (fun hg22 => ?y22) (fun hg22 => ?n22)
          case' y22 =>
           have hok := hg22
           refine x_callR T.en_25 (left_any (1000001 + k) (by unfold NAM; omega) r f (lensR r f (0, false)).2 (by omega) hrle) ?_ ⟨⟨(by unfold NAM; omega), (by first | rfl | (simp only [hOf, hset, hpost, if_true, if_false, not_false_eq_true]; first | done | rfl))⟩, trivial⟩
           refine x_len ?_
           first | refine x_sub ?_ (h := by first | exact IntWalk.i64_in _ (by ((try simp only [byD_len, List.length_append, List.length_nil, List.length_cons, List.length_map, Int.natCast_add]); omega)) | rfl) | refine x_bin rfl rfl ?_
           refine br (fun hc23 => ?y23) (fun hc23 => ?n23)
           case' y23 =>
            have h7 := hbo.2.2 hok
            have h8 := leftR_le (f := f) hrle
            rw [← h7, IntWalk.i64_in _ (by omega)] at hc23
            exact absurd rfl hc23
           case' n23 =>
            first | refine x_inc ?_ (h := by ((try simp only [byD_len, List.length_append, List.length_nil, List.length_cons, List.length_map, Int.natCast_add]); omega)) | refine x_add ?_ (h := by first | exact IntWalk.i64_in _ (by ((try simp only [byD_len, List.length_append, List.length_nil, List.length_cons, List.length_map, Int.natCast_add]); omega)) | rfl) | refine x_bin rfl rfl ?_
            refine x_rnd (k + 1) (by omega) (by (try dsimp only); omega) rfl (x_ent (by first | rfl | (simp only [Tr.get]; simp; done)) trivial) (body_next hr).symm
          case' n22 =>
           refine brF ?_
           first | refine x_inc ?_ (h := by ((try simp only [byD_len, List.length_append, List.length_nil, List.length_cons, List.length_map, Int.natCast_add]); omega)) | refine x_add ?_ (h := by first | exact IntWalk.i64_in _ (by ((try simp only [byD_len, List.length_append, List.length_nil, List.length_cons, List.length_map, Int.natCast_add]); omega)) | rfl) | refine x_bin rfl rfl ?_
           refine x_rnd (k + 1) (by omega) (by (try dsimp only); omega) rfl (x_ent (by first | rfl | (simp only [Tr.get]; simp; done)) trivial) (body_next hr).symm
   case' n5 =>
    refine brF ?_
    have hf : fmtF f := by unfold fmtF; omega
    have hle : (lensR (lensP f x) f (0, false)).2.1 ≤ (lensP f x).length := lensR_inv (Nat.zero_le _)
    first | refine x_bnd ?_ | refine x_bndI ?_
    refine x_row ?_ (by first | exact one_wide | exact byD_wide _) (h1 := by ((try simp only [byD_len, List.length_append, List.length_nil, List.length_cons, List.length_map, Int.natCast_add]); omega)) (h2 := by ((try simp only [byD_len, List.length_append, List.length_nil, List.length_cons, List.length_map, Int.natCast_add]); omega)) (hy := by first | exact byD_tl | exact rfl | rfl)
    refine x_callH T.en_20 (penNewOk_any 1000000 (by decide) (lensP f x) f (by omega) hf) ?_ ⟨⟨(by decide), (by first | rfl | (simp only [hOf, hset, hpost, if_true, if_false, not_false_eq_true]; first | done | rfl))⟩, trivial⟩
    refine x_callH T.en_19 (lensGet_any 1000000 (by decide) (lensP f x) f (0, false) (by omega) (Nat.zero_le _)) ?_ ⟨⟨(by decide), (by first | rfl | (simp only [hOf, hset, hpost, if_true, if_false, not_false_eq_true]; first | done | rfl))⟩, trivial⟩
    refine And.intro ⟨T.mixed, by decide +kernel⟩ ?_
    first | refine x_bnd ?_ | refine x_bndI ?_
    refine x_row ?_ (by first | exact one_wide | exact byD_wide _) (h1 := by ((try simp only [byD_len, List.length_append, List.length_nil, List.length_cons, List.length_map, Int.natCast_add]); omega)) (h2 := by ((try simp only [byD_len, List.length_append, List.length_nil, List.length_cons, List.length_map, Int.natCast_add]); omega)) (hy := by first | exact byD_tl | exact rfl | rfl)
    refine q_tostr Try.underlying39 Try.underlying5 Try.underlying9 (l := (lensP f x)) ?_
    refine x_call T.en_21 (ref15Put_any f x hf hB) ?_
    refine q_tostr Try.underlying39 Try.underlying5 Try.underlying9 (l := (lensP f x)) ?_
    refine br (fun hg26 => ?y26) (fun hg26 => ?n26)
    case' y26 =>
     exact absurd rfl hg26
    case' n26 =>
     refine x_call T.en_8 (refLensRight_any x hx0) ?_
     refine br (fun hg27 => ?y27) (fun hg27 => ?n27)
     case' y27 =>
      have hro := lens_round hf hg27
      refine x_call T.en_11 (by first | exact refLensSame_any x _ hx0 | exact refLensSame_any (lensR r f (0, false)).1 _ lensR_okX) ?_
      refine br (fun hg28 => ?y28) (fun hg28 => ?n28)
      case' y28 =>
       exact absurd (by rw [hro]) hg28
      case' n28 =>
       refine q_callR T.en_22 (end_any 1000000 (by decide) (lensP f x) f (lensR (lensP f x) f (0, false)).2 (by omega) hle) ?_ ⟨⟨(by decide), (by first | rfl | (simp only [hOf, hset, hpost, if_true, if_false, not_false_eq_true]; first | done | rfl))⟩, trivial⟩
       refine br (fun hc29 => ?y29) (fun hc29 => ?n29)
       case' y29 =>
        exact absurd (by rw [hro]; exact end_zero hf) hc29
       case' n29 =>
        first | refine x_bnd ?_ | refine x_bndI ?_
        refine x_row ?_ (by first | exact one_wide | exact byD_wide _) (h1 := by ((try simp only [byD_len, List.length_append, List.length_nil, List.length_cons, List.length_map, Int.natCast_add]); omega)) (h2 := by ((try simp only [byD_len, List.length_append, List.length_nil, List.length_cons, List.length_map, Int.natCast_add]); omega)) (hy := by first | exact byD_tl | exact rfl | rfl)
        refine x_len ?_
        refine xloop (fb := [37, 42, 43, 50, 52, 55, 59, 71, 87, 89, 99, 111]) T.ok (Nat.le_of_ble_eq_true rfl) [1, 79, 80] (fun (k : Nat) => [(81, .c (.d (.sc (.int .i64 (k : Nat)))))]) (fun k => bodyH (hpost (hpost (hOf [(1000000, .free), (1000001, .free), (1000002, .free)]) [(1000000, rdS (lensP f x) f (0, false))]) [(1000000, rdS (lensP f x) f (lensR (lensP f x) f (0, false)).2)]) f (lensP f x) b k) (fun k => k ≤ 2) (fun k => 2 - k) 0 (Nat.zero_le _) (x_ent (by first | rfl | (simp only [Tr.get]; simp; done)) trivial) body_zero ?_
        rintro k hk
        refine br (fun hc30 => ?y30) (fun hc30 => ?n30)
        case' y30 =>
         have hk2 : k < 2 := by have h9 := hc30; simp only [List.length_cons, List.length_nil] at h9; omega
         obtain ⟨r, hr⟩ : ∃ r, (if k = 0 then (lensP f x) else b) = r := ⟨_, rfl⟩
         have hrl : r.length ≤ 8000000 := by rw [← hr]; split <;> omega
         have hbo := lens_both (b := r) hf
         have hrle : (lensR r f (0, false)).2.1 ≤ r.length := lensR_inv (Nat.zero_le _)
         have hfree : bodyH (hpost (hpost (hOf [(1000000, .free), (1000001, .free), (1000002, .free)]) [(1000000, rdS (lensP f x) f (0, false))]) [(1000000, rdS (lensP f x) f (lensR (lensP f x) f (0, false)).2)]) f (lensP f x) b k (1000001 + k) = .free := body_free (by rcases (by omega : k = 0 ∨ k = 1) with rfl | rfl <;> rfl)
         first | refine x_ix (by exact row2_at hr (by omega)) ?_ | refine x_ixI (by exact row2_at hr (by omega)) ?_
         refine x_callH T.en_20 (penNewOk_any (1000001 + k) (by unfold NAM; omega) r f hrl hf) ?_ ⟨⟨(by unfold NAM; omega), hfree⟩, trivial⟩
         refine x_callH T.en_19 (lensGet_any (1000001 + k) (by unfold NAM; omega) r f (0, false) (by omega) (Nat.zero_le _)) ?_ ⟨⟨(by unfold NAM; omega), (by first | rfl | (simp only [hOf, hset, hpost, if_true, if_false, not_false_eq_true]; first | done | rfl))⟩, trivial⟩
         refine x_call T.en_23 (ref15Get_any r 0 f (by omega) (Nat.zero_le _)) ?_
         refine x_callR T.en_24 (bad_any (1000001 + k) (by unfold NAM; omega) r f (lensR r f (0, false)).2 (by omega) hrle) ?_ ⟨⟨(by unfold NAM; omega), (by first | rfl | (simp only [hOf, hset, hpost, if_true, if_false, not_false_eq_true]; first | done | rfl))⟩, trivial⟩
         first | refine x_bin (pr_eqb Try.underlying4) rfl ?_ | refine x_bin rfl rfl ?_
         refine br (fun hg31 => ?y31) (fun hg31 => ?n31)
         case' y31 =>
          exact absurd hg31 (by rw [hbo.2.1]; cases (lensO r 0 f).isSome <;> decide)
         case' n31 =>
          refine x_call T.en_11 (by first | exact refLensSame_any x _ hx0 | exact refLensSame_any (lensR r f (0, false)).1 _ lensR_okX) ?_
          refine br (fun hg32 => ?y32) (fun hg32 => ?n32)
          case' y32 =>
           exact absurd hbo.1 hg32
          case' n32 =>
           refine br (fun hg33 => ?y33) (fun hg33 => ?n33)
           case' y33 =>
            have hok := hg33
            refine x_callR T.en_25 (left_any (1000001 + k) (by unfold NAM; omega) r f (lensR r f (0, false)).2 (by omega) hrle) ?_ ⟨⟨(by unfold NAM; omega), (by first | rfl | (simp only [hOf, hset, hpost, if_true, if_false, not_false_eq_true]; first | done | rfl))⟩, trivial⟩
            refine x_len ?_
            first | refine x_sub ?_ (h := by first | exact IntWalk.i64_in _ (by ((try simp only [byD_len, List.length_append, List.length_nil, List.length_cons, List.length_map, Int.natCast_add]); omega)) | rfl) | refine x_bin rfl rfl ?_
            refine br (fun hc34 => ?y34) (fun hc34 => ?n34)
            case' y34 =>
             have h7 := hbo.2.2 hok
             have h8 := leftR_le (f := f) hrle
             rw [← h7, IntWalk.i64_in _ (by omega)] at hc34
             exact absurd rfl hc34
            case' n34 =>
             first | refine x_inc ?_ (h := by ((try simp only [byD_len, List.length_append, List.length_nil, List.length_cons, List.length_map, Int.natCast_add]); omega)) | refine x_add ?_ (h := by first | exact IntWalk.i64_in _ (by ((try simp only [byD_len, List.length_append, List.length_nil, List.length_cons, List.length_map, Int.natCast_add]); omega)) | rfl) | refine x_bin rfl rfl ?_
             refine x_rnd (k + 1) (by omega) (by (try dsimp only); omega) rfl (x_ent (by first | rfl | (simp only [Tr.get]; simp; done)) trivial) (body_next hr).symm
           case' n33 =>
            refine brF ?_
            first | refine x_inc ?_ (h := by ((try simp only [byD_len, List.length_append, List.length_nil, List.length_cons, List.length_map, Int.natCast_add]); omega)) | refine x_add ?_ (h := by first | exact IntWalk.i64_in _ (by ((try simp only [byD_len, List.length_append, List.length_nil, List.length_cons, List.length_map, Int.natCast_add]); omega)) | rfl) | refine x_bin rfl rfl ?_
            refine x_rnd (k + 1) (by omega) (by (try dsimp only); omega) rfl (x_ent (by first | rfl | (simp only [Tr.get]; simp; done)) trivial) (body_next hr).symm
     case' n27 =>
      refine brF ?_
      first | refine x_bnd ?_ | refine x_bndI ?_
      refine x_row ?_ (by first | exact one_wide | exact byD_wide _) (h1 := by ((try simp only [byD_len, List.length_append, List.length_nil, List.length_cons, List.length_map, Int.natCast_add]); omega)) (h2 := by ((try simp only [byD_len, List.length_append, List.length_nil, List.length_cons, List.length_map, Int.natCast_add]); omega)) (hy := by first | exact byD_tl | exact rfl | rfl)
      refine x_len ?_
      refine xloop (fb := [37, 42, 43, 50, 52, 55, 59, 71, 87, 89, 99, 111]) T.ok (Nat.le_of_ble_eq_true rfl) [1, 79, 80] (fun (k : Nat) => [(81, .c (.d (.sc (.int .i64 (k : Nat)))))]) (fun k => bodyH (hpost (hpost (hOf [(1000000, .free), (1000001, .free), (1000002, .free)]) [(1000000, rdS (lensP f x) f (0, false))]) [(1000000, rdS (lensP f x) f (lensR (lensP f x) f (0, false)).2)]) f (lensP f x) b k) (fun k => k ≤ 2) (fun k => 2 - k) 0 (Nat.zero_le _) (x_ent (by first | rfl | (simp only [Tr.get]; simp; done)) trivial) body_zero ?_
      rintro k hk
      refine br (fun hc37 => ?y37) (fun hc37 => ?n37)
      case' y37 =>
       have hk2 : k < 2 := by have h9 := hc37; simp only [List.length_cons, List.length_nil] at h9; omega
       obtain ⟨r, hr⟩ : ∃ r, (if k = 0 then (lensP f x) else b) = r := ⟨_, rfl⟩
       have hrl : r.length ≤ 8000000 := by rw [← hr]; split <;> omega
       have hbo := lens_both (b := r) hf
       have hrle : (lensR r f (0, false)).2.1 ≤ r.length := lensR_inv (Nat.zero_le _)
       have hfree : bodyH (hpost (hpost (hOf [(1000000, .free), (1000001, .free), (1000002, .free)]) [(1000000, rdS (lensP f x) f (0, false))]) [(1000000, rdS (lensP f x) f (lensR (lensP f x) f (0, false)).2)]) f (lensP f x) b k (1000001 + k) = .free := body_free (by rcases (by omega : k = 0 ∨ k = 1) with rfl | rfl <;> rfl)
       first | refine x_ix (by exact row2_at hr (by omega)) ?_ | refine x_ixI (by exact row2_at hr (by omega)) ?_
       refine x_callH T.en_20 (penNewOk_any (1000001 + k) (by unfold NAM; omega) r f hrl hf) ?_ ⟨⟨(by unfold NAM; omega), hfree⟩, trivial⟩
       refine x_callH T.en_19 (lensGet_any (1000001 + k) (by unfold NAM; omega) r f (0, false) (by omega) (Nat.zero_le _)) ?_ ⟨⟨(by unfold NAM; omega), (by first | rfl | (simp only [hOf, hset, hpost, if_true, if_false, not_false_eq_true]; first | done | rfl))⟩, trivial⟩
       refine x_call T.en_23 (ref15Get_any r 0 f (by omega) (Nat.zero_le _)) ?_
       refine x_callR T.en_24 (bad_any (1000001 + k) (by unfold NAM; omega) r f (lensR r f (0, false)).2 (by omega) hrle) ?_ ⟨⟨(by unfold NAM; omega), (by first | rfl | (simp only [hOf, hset, hpost, if_true, if_false, not_false_eq_true]; first | done | rfl))⟩, trivial⟩
       first | refine x_bin (pr_eqb Try.underlying4) rfl ?_ | refine x_bin rfl rfl ?_
       refine br (fun hg38 => ?y38) (fun hg38 => ?n38)
       case' y38 =>
        exact absurd hg38 (by rw [hbo.2.1]; cases (lensO r 0 f).isSome <;> decide)
       case' n38 =>
        refine x_call T.en_11 (by first | exact refLensSame_any x _ hx0 | exact refLensSame_any (lensR r f (0, false)).1 _ lensR_okX) ?_
        refine br (fun hg39 => ?y39) (fun hg39 => ?n39)
        case' y39 =>
         exact absurd hbo.1 hg39
        case' n39 =>
         refine br (fun hg40 => ?y40) (fun hg40 => ?n40)
         case' y40 =>
          have hok := hg40
          refine x_callR T.en_25 (left_any (1000001 + k) (by unfold NAM; omega) r f (lensR r f (0, false)).2 (by omega) hrle) ?_ ⟨⟨(by unfold NAM; omega), (by first | rfl | (simp only [hOf, hset, hpost, if_true, if_false, not_false_eq_true]; first | done | rfl))⟩, trivial⟩
          refine x_len ?_
          first | refine x_sub ?_ (h := by first | exact IntWalk.i64_in _ (by ((try simp only [byD_len, List.length_append, List.length_nil, List.length_cons, List.length_map, Int.natCast_add]); omega)) | rfl) | refine x_bin rfl rfl ?_
          refine br (fun hc41 => ?y41) (fun hc41 => ?n41)
          case' y41 =>
           have h7 := hbo.2.2 hok
           have h8 := leftR_le (f := f) hrle
           rw [← h7, IntWalk.i64_in _ (by omega)] at hc41
           exact absurd rfl hc41
          case' n41 =>
           first | refine x_inc ?_ (h := by ((try simp only [byD_len, List.length_append, List.length_nil, List.length_cons, List.length_map, Int.natCast_add]); omega)) | refine x_add ?_ (h := by first | exact IntWalk.i64_in _ (by ((try simp only [byD_len, List.length_append, List.length_nil, List.length_cons, List.length_map, Int.natCast_add]); omega)) | rfl) | refine x_bin rfl rfl ?_
           refine x_rnd (k + 1) (by omega) (by (try dsimp only); omega) rfl (x_ent (by first | rfl | (simp only [Tr.get]; simp; done)) trivial) (body_next hr).symm
         case' n40 =>
          refine brF ?_
          first | refine x_inc ?_ (h := by ((try simp only [byD_len, List.length_append, List.length_nil, List.length_cons, List.length_map, Int.natCast_add]); omega)) | refine x_add ?_ (h := by first | exact IntWalk.i64_in _ (by ((try simp only [byD_len, List.length_append, List.length_nil, List.length_cons, List.length_map, Int.natCast_add]); omega)) | rfl) | refine x_bin rfl rfl ?_
          refine x_rnd (k + 1) (by omega) (by (try dsimp only); omega) rfl (x_ent (by first | rfl | (simp only [Tr.get]; simp; done)) trivial) (body_next hr).symm
 all_goals (refine ⟨?_, trivial⟩; simp only [fitsL, fits, C.asD, and_true] <;> (first | rfl | (rw [hg.1]; rfl)))
end Go.Vm
end
section
namespace Go.Vm
open Go.RowKit
set_option linter.unusedVariables false
set_option linter.unusedSimpArgs false

def allFrozen : Roles := fun _ => .frozen
theorem okFrozen (b off : Nat) : okAt allFrozen b off := trivial

section
variable {P : Program} {w : World}

/-- What reads as cells of a type is a value's of a kind. -/
def Cells (P : Program) (w : World) (t : TypeId) {α : Type} (enc : α → D) (ok : α → Prop) : Prop := ∀ es, Reads P w t es → ∃ x : α, Reps allFrozen w es (enc x).cells ∧ ok x

theorem cells_at : ∀ {ess : List (List Value)} {b off sz : Nat}, (∀ (i : Nat) (es : List Value), ess[i]? = some es → es.length = sz ∧ ∀ (j : Nat) (u : Value), es[j]? = some u → w.cell? ⟨b, off + i * sz + j, none⟩ = some u) →
    ess.flatten.length = ess.length * sz ∧ ∀ (j : Nat) (u : Value), ess.flatten[j]? = some u → w.cell? ⟨b, off + j, none⟩ = some u
  | [], b, off, sz, _ => ⟨by simp, by simp⟩
  | es :: ess, b, off, sz, h => by
    obtain ⟨h0, h1⟩ := h 0 es rfl
    obtain ⟨k0, k1⟩ := cells_at (ess := ess) (b := b) (off := off + sz) (sz := sz) (fun i es' hes => by
      obtain ⟨g0, g1⟩ := h (i + 1) es' (by simpa using hes)
      refine ⟨g0, fun j u hu => ?_⟩
      have := g1 j u hu
      rw [Nat.add_mul, Nat.one_mul] at this
      rw [show off + sz + i * sz + j = off + (i * sz + sz) + j by omega]; exact this)
    refine ⟨by rw [List.flatten_cons, List.length_append, k0, h0, List.length_cons, Nat.add_mul, Nat.one_mul, Nat.add_comm], fun j u hu => ?_⟩
    rw [List.flatten_cons] at hu
    by_cases hj : j < es.length
    · rw [List.getElem?_append_left hj] at hu
      have := h1 j u hu
      simpa using this
    · rw [List.getElem?_append_right (by omega)] at hu
      have := k1 (j - es.length) u hu
      rw [h0] at this
      rw [show off + j = off + sz + (j - sz) by omega]; exact this

theorem reps_flat {α : Type} {enc : α → D} : ∀ {ps : List (List Value × α)}, (∀ p ∈ ps, Reps allFrozen w p.1 (enc p.2).cells) → Reps allFrozen w (ps.map (·.1)).flatten (flat ((ps.map (·.2)).map enc))
  | [], _ => by simpa [flat] using Reps.nil
  | p :: ps, h => by
    have h1 := h p (List.mem_cons_self ..)
    have h2 := reps_flat (ps := ps) fun q hq => h q (List.mem_cons_of_mem _ hq)
    simp only [List.map_cons, List.flatten_cons, flat, List.flatMap_cons] at h2 ⊢
    exact h1.append h2

/-- A slice that is handed in. -/
theorem row_of {t e : TypeId} {sz : Nat} {α : Type} {enc : α → D} {ok : α → Prop} (ht : P.underlying t = some (.slice e)) (hsz : P.cellsOf e = sz) (h0 : 0 < sz) (hw : ∀ x, (enc x).cells.length = sz) (hel : Cells P w e enc ok) {a : Option Addr} {l c : Nat} (h : Reads P w t [.slice a l c]) :
    ∃ xs : List α, Rep allFrozen w (.slice a l c) (.row (xs.map enc)) ∧ ∀ x ∈ xs, ok x := by
  rcases h.slice ht with h | ⟨ad, len, cap, h, h1, h2, h3⟩
  · injection h with h; injection h with h4 h5 h6
    subst h4 h5 h6
    exact ⟨[], .nil (by simp [maxLen]), by simp⟩
  · injection h with h; injection h with h4 h5 h6
    subst h4 h5 h6
    rw [hsz] at h3
    obtain ⟨ps, hl, hp⟩ := choose_list (Q := fun i (p : List Value × α) => p.1.length = sz ∧ (∀ j (hj : j < p.1.length), w.cell? ((ad.add (i * sz)).add j) = some p.1[j]) ∧ Reps allFrozen w p.1 (enc p.2).cells ∧ ok p.2) l (fun i hi => by
      obtain ⟨es, q1, q2, q3⟩ := h3 i hi
      obtain ⟨x, hx, hok⟩ := hel es q3
      exact ⟨(es, x), q1, q2, hx, hok⟩)
    by_cases hz : l = 0
    · subst hz
      obtain rfl : ps = [] := List.length_eq_zero_iff.1 hl
      exact ⟨[], .nil h2, by simp⟩
    · have hlt : 0 < ps.length := by omega
      have had : ad = ⟨ad.block, ad.off, none⟩ := by
        obtain ⟨q1, q2, _⟩ := hp 0 hlt
        have := q2 0 (by omega)
        have e0 : (ad.add (0 * sz)).add 0 = ad := by simp [Addr.add]
        rw [e0] at this
        exact addr_of_cell this
      have hcells := cells_at (w := w) (ess := ps.map (·.1)) (b := ad.block) (off := ad.off) (sz := sz) (fun i es hes => by
        rw [List.getElem?_map] at hes
        cases hpi : ps[i]? with
        | none => rw [hpi] at hes; cases hes
        | some p =>
          rw [hpi] at hes
          simp only [Option.map_some, Option.some.injEq] at hes
          subst hes
          obtain ⟨hi, rfl⟩ := List.getElem?_eq_some_iff.1 hpi
          obtain ⟨q1, q2, _⟩ := hp i hi
          refine ⟨q1, fun j u hu => ?_⟩
          obtain ⟨hj, rfl⟩ := List.getElem?_eq_some_iff.1 hu
          have := q2 j hj
          rw [had, add_spot, add_spot] at this
          exact this)
      have hmem : ∀ p ∈ ps, Reps allFrozen w p.1 (enc p.2).cells ∧ ok p.2 := by
        intro p hpm
        obtain ⟨i, hi, rfl⟩ := List.getElem_of_mem hpm
        exact (hp i hi).2.2
      have hr := reps_flat (enc := enc) (fun p hpm => (hmem p hpm).1)
      refine ⟨ps.map (·.2), ?_, fun x hx => ?_⟩
      · have hlen : ((ps.map (·.2)).map enc).length = l := by simp [hl]
        rw [had]
        have := Rep.row (ro := allFrozen) (w := w) (b := ad.block) (off := ad.off) (cap := c) (sz := sz) (xs := (ps.map (·.2)).map enc) (ps.map (·.1)).flatten h0 (by rw [hlen]; exact h1) h2 (by rw [hcells.1, hlen]; simp [hl]) (fun x hx => by obtain ⟨y, _, rfl⟩ := List.mem_map.1 hx; exact hw y) hr.2.1 (fun j u hu => ⟨hcells.2 j u hu, okFrozen _ _⟩) hr.2.2
        rw [hlen] at this
        exact this
      · obtain ⟨p, hpm, rfl⟩ := List.mem_map.1 hx
        exact (hmem p hpm).2

/-- Behind a function that answers true. -/
theorem law_true {f : FuncId} {args : List D} {vs : Array Value} (hc : Contract P f args [.d (.sc (.bool true))]) (hl : vs.size = args.length) (hr : ∀ (i : Nat) (v : Value) (d : D), vs.toList[i]? = some v → args[i]? = some d → Rep allFrozen w v d) :
    Calls P f vs w fun e w' => e = .returned (.bool true) ∧ Below w.heap.size w w' := by
  refine (hc allFrozen w vs 0 (fun _ _ => rfl) (fun _ _ _ _ _ h => by cases h) hl hr).mono ?_
  rintro e w' ⟨v, ro', rfl, hg, hs⟩
  have : v = .bool true := (rep_sc (show Rep ro' w' v (.sc (.bool true)) from hs)).1
  exact ⟨by rw [this], hg.below⟩
/-- The same, of a function that makes things with names. -/
theorem law_trueH {f : FuncId} {args : List D} {vs : Array Value} {pre post : List (Nat × S)} (hc : ContractH P f args pre [.d (.sc (.bool true))] post) (hp : ∀ p ∈ pre, p.2 = .free) (hl : vs.size = args.length) (hr : ∀ (i : Nat) (v : Value) (d : D), vs.toList[i]? = some v → args[i]? = some d → Rep allFrozen w v d) :
    Calls P f vs w fun e w' => e = .returned (.bool true) ∧ Below w.heap.size w w' := by
  refine (hc allFrozen w vs 0 (fun _ _ => rfl) (fun _ _ _ _ _ h => by cases h) hl hr (fun p hm => by rw [hp p hm]; intro b k h; cases h)).mono ?_
  rintro e w' ⟨v, ro', rfl, hg, hs, _⟩
  have : v = .bool true := (rep_sc (show Rep ro' w' v (.sc (.bool true)) from hs)).1
  exact ⟨by rw [this], hg.os, hg.tape, hg.output, hg.size, fun k hk => hg.block k hk fun id m h => by cases h⟩
end
end Go.Vm
end
section
namespace Go.Vm
open Go.RowKit Go.Proofs
set_option linter.unusedVariables false
set_option linter.unusedSimpArgs false
set_option maxRecDepth 10000

open Go.RowKit

section
variable {P : Program} {w : World}
theorem reps_cut {ro : Roles} {es : List Value} {o k : Nat} {c d : List D} (h1 : Reps ro w ((es.drop o).take k) c) (h2 : Reps ro w (es.drop (o + k)) d) : Reps ro w (es.drop o) (c ++ d) := by
  have h := h1.append h2
  rwa [← List.drop_drop, List.take_append_drop] at h
theorem reps_end {ro : Roles} {es : List Value} {o : Nat} (h : es.length = o) : Reps ro w (es.drop o) [] := by
  rw [List.drop_eq_nil_of_le (by omega)]; exact Reps.nil
theorem cells_int {t : TypeId} {cs : List Value} (ht : P.underlying t = some (.int .i64)) (h : Reads P w t cs) : ∃ n : Int, Reps allFrozen w cs [.sc (.int .i64 n)] := by
  obtain ⟨n, rfl, _⟩ := h.int ht
  exact ⟨n, rfl, by simp [Value.oneCell'], fun j u c hu hc => by cases j with | zero => simp at hu hc; subst hu hc; exact .sc rfl | succ j => simp at hu⟩
theorem cells_str {t : TypeId} {cs : List Value} (ht : P.underlying t = some .string) (h : Reads P w t cs) : ∃ s : ByteArray, Reps allFrozen w cs [.sc (.string s)] := by
  obtain ⟨s, rfl, _⟩ := h.string ht
  exact ⟨s, rfl, by simp [Value.oneCell'], fun j u c hu hc => by cases j with | zero => simp at hu hc; subst hu hc; exact .sc rfl | succ j => simp at hu⟩
theorem cells_row {t e : TypeId} {sz : Nat} {α : Type} {enc : α → D} {cs : List Value} (ht : P.underlying t = some (.slice e)) (hsz : P.cellsOf e = sz) (h0 : 0 < sz) (hw : ∀ x, (enc x).cells.length = sz) (hel : Cells P w e enc (fun _ => True)) (h : Reads P w t cs) : ∃ xs : List α, Reps allFrozen w cs [.row (xs.map enc)] := by
  have hc : ∃ a l c, cs = [.slice a l c] := by
    rcases h.slice ht with rfl | ⟨a, l, c, rfl, _⟩
    · exact ⟨_, _, _, rfl⟩
    · exact ⟨_, _, _, rfl⟩
  obtain ⟨a, l, c, rfl⟩ := hc
  obtain ⟨xs, hx, _⟩ := row_of ht hsz h0 hw hel h
  exact ⟨xs, rfl, by simp [Value.oneCell'], fun j u c hu hc => by cases j with | zero => simp at hu hc; subst hu hc; exact hx | succ j => simp at hu⟩
theorem rep_agg {ro : Roles} {s : Array Value} {cs : List D} (h : Reps ro w s.toList cs) : Rep ro w (.agg s) (.agg cs) := .agg (by simpa using h.1) h.2.1 h.2.2
end
theorem str_cells (w : World) : Cells Try.prog w 9 strD (fun _ => True) := by
  intro es h
  obtain ⟨s, hs⟩ := cells_str Try.underlying9 h
  exact ⟨s, hs, trivial⟩

theorem ref_cells (w : World) : Cells Try.prog w 23 rD (fun _ => True) := by
  intro es h
  obtain ⟨hl, hf⟩ := h.struct Try.underlying23
  rw [show Try.prog.cellsOf 23 = 3 from by kernel_rfl] at hl
  have h0 := hf _ (List.mem_cons_self ..)
  simp only [show Try.prog.cellsOf 3 = 1 from by kernel_rfl] at h0
  obtain ⟨v0, r0⟩ := cells_int Try.underlying3 h0
  have h1 := hf _ (List.mem_cons_of_mem _ (List.mem_cons_self ..))
  simp only [show Try.prog.cellsOf 9 = 1 from by kernel_rfl] at h1
  obtain ⟨v1, r1⟩ := cells_str Try.underlying9 h1
  have h2 := hf _ (List.mem_cons_of_mem _ (List.mem_cons_of_mem _ (List.mem_cons_self ..)))
  simp only [show Try.prog.cellsOf 9 = 1 from by kernel_rfl] at h2
  obtain ⟨v2, r2⟩ := cells_str Try.underlying9 h2
  exact ⟨⟨v0, v1, v2⟩, reps_cut (o := 0) (k := 1) r0 (reps_cut (o := 1) (k := 1) r1 (reps_cut (o := 2) (k := 1) r2 (reps_end hl))), trivial⟩
theorem pair_cells (w : World) : Cells Try.prog w 38 pairD (fun _ => True) := by
  intro es h
  obtain ⟨hl, hf⟩ := h.struct Try.underlying38
  rw [show Try.prog.cellsOf 38 = 2 from by kernel_rfl] at hl
  have h0 := hf _ (List.mem_cons_self ..)
  simp only [show Try.prog.cellsOf 9 = 1 from by kernel_rfl] at h0
  obtain ⟨v0, r0⟩ := cells_str Try.underlying9 h0
  have h1 := hf _ (List.mem_cons_of_mem _ (List.mem_cons_self ..))
  simp only [show Try.prog.cellsOf 9 = 1 from by kernel_rfl] at h1
  obtain ⟨v1, r1⟩ := cells_str Try.underlying9 h1
  exact ⟨(v0, v1), reps_cut (o := 0) (k := 1) r0 (reps_cut (o := 1) (k := 1) r1 (reps_end hl)), trivial⟩
theorem field_cells (w : World) : Cells Try.prog w 26 fD (fun _ => True) := by
  intro es h
  obtain ⟨hl, hf⟩ := h.struct Try.underlying26
  rw [show Try.prog.cellsOf 26 = 7 from by kernel_rfl] at hl
  have h0 := hf _ (List.mem_cons_self ..)
  simp only [show Try.prog.cellsOf 23 = 3 from by kernel_rfl] at h0
  obtain ⟨v0, r0, _⟩ := ref_cells w _ h0
  have h1 := hf _ (List.mem_cons_of_mem _ (List.mem_cons_self ..))
  simp only [show Try.prog.cellsOf 3 = 1 from by kernel_rfl] at h1
  obtain ⟨v1, r1⟩ := cells_int Try.underlying3 h1
  have h2 := hf _ (List.mem_cons_of_mem _ (List.mem_cons_of_mem _ (List.mem_cons_self ..)))
  simp only [show Try.prog.cellsOf 9 = 1 from by kernel_rfl] at h2
  obtain ⟨v2, r2⟩ := cells_str Try.underlying9 h2
  have h3 := hf _ (List.mem_cons_of_mem _ (List.mem_cons_of_mem _ (List.mem_cons_of_mem _ (List.mem_cons_self ..))))
  simp only [show Try.prog.cellsOf 24 = 1 from by kernel_rfl] at h3
  obtain ⟨v3, r3⟩ := cells_row Try.underlying24 (show Try.prog.cellsOf 9 = 1 from by kernel_rfl) (by omega) (fun _ => rfl) (str_cells w) h3
  have h4 := hf _ (List.mem_cons_of_mem _ (List.mem_cons_of_mem _ (List.mem_cons_of_mem _ (List.mem_cons_of_mem _ (List.mem_cons_self ..)))))
  simp only [show Try.prog.cellsOf 2 = 1 from by kernel_rfl] at h4
  obtain ⟨v4, r4⟩ := cells_int Try.underlying2 h4
  exact ⟨⟨v0, v1, v2, v3, v4⟩, reps_cut (o := 0) (k := 3) r0 (reps_cut (o := 3) (k := 1) r1 (reps_cut (o := 4) (k := 1) r2 (reps_cut (o := 5) (k := 1) r3 (reps_cut (o := 6) (k := 1) r4 (reps_end hl))))), trivial⟩
theorem lens_cells (w : World) : Cells Try.prog w 29 lD (fun _ => True) := by
  intro es h
  obtain ⟨hl, hf⟩ := h.struct Try.underlying29
  rw [show Try.prog.cellsOf 29 = 16 from by kernel_rfl] at hl
  have h0 := hf _ (List.mem_cons_self ..)
  simp only [show Try.prog.cellsOf 3 = 1 from by kernel_rfl] at h0
  obtain ⟨v0, r0⟩ := cells_int Try.underlying3 h0
  have h1 := hf _ (List.mem_cons_of_mem _ (List.mem_cons_self ..))
  simp only [show Try.prog.cellsOf 23 = 3 from by kernel_rfl] at h1
  obtain ⟨v1, r1, _⟩ := ref_cells w _ h1
  have h2 := hf _ (List.mem_cons_of_mem _ (List.mem_cons_of_mem _ (List.mem_cons_self ..)))
  simp only [show Try.prog.cellsOf 9 = 1 from by kernel_rfl] at h2
  obtain ⟨v2, r2⟩ := cells_str Try.underlying9 h2
  have h3 := hf _ (List.mem_cons_of_mem _ (List.mem_cons_of_mem _ (List.mem_cons_of_mem _ (List.mem_cons_self ..))))
  simp only [show Try.prog.cellsOf 9 = 1 from by kernel_rfl] at h3
  obtain ⟨v3, r3⟩ := cells_str Try.underlying9 h3
  have h4 := hf _ (List.mem_cons_of_mem _ (List.mem_cons_of_mem _ (List.mem_cons_of_mem _ (List.mem_cons_of_mem _ (List.mem_cons_self ..)))))
  simp only [show Try.prog.cellsOf 2 = 1 from by kernel_rfl] at h4
  obtain ⟨v4, r4⟩ := cells_int Try.underlying2 h4
  have h5 := hf _ (List.mem_cons_of_mem _ (List.mem_cons_of_mem _ (List.mem_cons_of_mem _ (List.mem_cons_of_mem _ (List.mem_cons_of_mem _ (List.mem_cons_self ..))))))
  simp only [show Try.prog.cellsOf 26 = 7 from by kernel_rfl] at h5
  obtain ⟨v5, r5, _⟩ := field_cells w _ h5
  have h6 := hf _ (List.mem_cons_of_mem _ (List.mem_cons_of_mem _ (List.mem_cons_of_mem _ (List.mem_cons_of_mem _ (List.mem_cons_of_mem _ (List.mem_cons_of_mem _ (List.mem_cons_self ..)))))))
  simp only [show Try.prog.cellsOf 27 = 1 from by kernel_rfl] at h6
  obtain ⟨v6, r6⟩ := cells_row Try.underlying27 (show Try.prog.cellsOf 38 = 2 from by kernel_rfl) (by omega) (fun _ => rfl) (pair_cells w) h6
  have h7 := hf _ (List.mem_cons_of_mem _ (List.mem_cons_of_mem _ (List.mem_cons_of_mem _ (List.mem_cons_of_mem _ (List.mem_cons_of_mem _ (List.mem_cons_of_mem _ (List.mem_cons_of_mem _ (List.mem_cons_self ..))))))))
  simp only [show Try.prog.cellsOf 27 = 1 from by kernel_rfl] at h7
  obtain ⟨v7, r7⟩ := cells_row Try.underlying27 (show Try.prog.cellsOf 38 = 2 from by kernel_rfl) (by omega) (fun _ => rfl) (pair_cells w) h7
  exact ⟨⟨v0, v1, v2, v3, v4, v5, v6, v7⟩, reps_cut (o := 0) (k := 1) r0 (reps_cut (o := 1) (k := 3) r1 (reps_cut (o := 4) (k := 1) r2 (reps_cut (o := 5) (k := 1) r3 (reps_cut (o := 6) (k := 1) r4 (reps_cut (o := 7) (k := 7) r5 (reps_cut (o := 14) (k := 1) r6 (reps_cut (o := 15) (k := 1) r7 (reps_end hl)))))))), trivial⟩
theorem tag_cells (w : World) : Cells Try.prog w 56 tD (fun _ => True) := by
  intro es h
  obtain ⟨hl, hf⟩ := h.struct Try.underlying56
  rw [show Try.prog.cellsOf 56 = 2 from by kernel_rfl] at hl
  have h0 := hf _ (List.mem_cons_self ..)
  simp only [show Try.prog.cellsOf 3 = 1 from by kernel_rfl] at h0
  obtain ⟨v0, r0⟩ := cells_int Try.underlying3 h0
  have h1 := hf _ (List.mem_cons_of_mem _ (List.mem_cons_self ..))
  simp only [show Try.prog.cellsOf 3 = 1 from by kernel_rfl] at h1
  obtain ⟨v1, r1⟩ := cells_int Try.underlying3 h1
  exact ⟨⟨v0, v1⟩, reps_cut (o := 0) (k := 1) r0 (reps_cut (o := 1) (k := 1) r1 (reps_end hl)), trivial⟩
theorem edge_cells (w : World) : Cells Try.prog w 58 eD (fun _ => True) := by
  intro es h
  obtain ⟨hl, hf⟩ := h.struct Try.underlying58
  rw [show Try.prog.cellsOf 58 = 20 from by kernel_rfl] at hl
  have h0 := hf _ (List.mem_cons_self ..)
  simp only [show Try.prog.cellsOf 56 = 2 from by kernel_rfl] at h0
  obtain ⟨v0, r0, _⟩ := tag_cells w _ h0
  have h1 := hf _ (List.mem_cons_of_mem _ (List.mem_cons_self ..))
  simp only [show Try.prog.cellsOf 56 = 2 from by kernel_rfl] at h1
  obtain ⟨v1, r1, _⟩ := tag_cells w _ h1
  have h2 := hf _ (List.mem_cons_of_mem _ (List.mem_cons_of_mem _ (List.mem_cons_self ..)))
  simp only [show Try.prog.cellsOf 29 = 16 from by kernel_rfl] at h2
  obtain ⟨v2, r2, _⟩ := lens_cells w _ h2
  exact ⟨⟨v0, v1, v2⟩, reps_cut (o := 0) (k := 2) r0 (reps_cut (o := 2) (k := 2) r1 (reps_cut (o := 4) (k := 16) r2 (reps_end hl))), trivial⟩

end Go.Vm
end
section
namespace Go.Vm
open Go.RowKit Go.Proofs
set_option linter.unusedVariables false
set_option linter.unusedSimpArgs false
set_option maxRecDepth 10000

open Go.RowKit

section
variable {P : Program} {w : World}
theorem cells_intI {t : TypeId} {cs : List Value} (ht : P.underlying t = some (.int .i64)) (h : Reads P w t cs) : ∃ n : Int, Reps allFrozen w cs [.sc (.int .i64 n)] ∧ inI64 n := by
  obtain ⟨n, rfl, hw⟩ := h.int ht
  refine ⟨n, ⟨rfl, by simp [Value.oneCell'], fun j u c hu hc => by cases j with | zero => simp at hu hc; subst hu hc; exact .sc rfl | succ j => simp at hu⟩, ?_⟩
  simp [Lit.wf, IntKind.min, IntKind.max, IntKind.signed, IntKind.bits] at hw
  exact ⟨by omega, by omega⟩
end
theorem u8_cells (w : World) : Cells Try.prog w 5 (fun b : UInt8 => .sc (.int .u8 b.toNat)) (fun _ => True) := by
  intro es h
  obtain ⟨n, rfl, hw⟩ := h.int Try.underlying5
  simp [Lit.wf, IntKind.min, IntKind.max, IntKind.signed, IntKind.bits] at hw
  have e : (((UInt8.ofNat n.toNat).toNat : Nat) : Int) = n := by rw [UInt8.toNat_ofNat']; omega
  refine ⟨UInt8.ofNat n.toNat, ?_, trivial⟩
  show Reps allFrozen w _ [.sc (.int .u8 (((UInt8.ofNat n.toNat).toNat : Nat) : Int))]
  rw [e]
  exact ⟨rfl, by simp [Value.oneCell'], fun j u c hu hc => by cases j with | zero => simp at hu hc; subst hu hc; exact .sc rfl | succ j => simp at hu⟩

theorem ref_cellsI (w : World) : Cells Try.prog w 23 rD okIR := by
  intro es h
  obtain ⟨hl, hf⟩ := h.struct Try.underlying23
  rw [show Try.prog.cellsOf 23 = 3 from by kernel_rfl] at hl
  have h0 := hf _ (List.mem_cons_self ..)
  simp only [show Try.prog.cellsOf 3 = 1 from by kernel_rfl] at h0
  obtain ⟨v0, r0, o0⟩ := cells_intI Try.underlying3 h0
  have h1 := hf _ (List.mem_cons_of_mem _ (List.mem_cons_self ..))
  simp only [show Try.prog.cellsOf 9 = 1 from by kernel_rfl] at h1
  obtain ⟨v1, r1⟩ := cells_str Try.underlying9 h1
  have h2 := hf _ (List.mem_cons_of_mem _ (List.mem_cons_of_mem _ (List.mem_cons_self ..)))
  simp only [show Try.prog.cellsOf 9 = 1 from by kernel_rfl] at h2
  obtain ⟨v2, r2⟩ := cells_str Try.underlying9 h2
  exact ⟨⟨v0, v1, v2⟩, reps_cut (o := 0) (k := 1) r0 (reps_cut (o := 1) (k := 1) r1 (reps_cut (o := 2) (k := 1) r2 (reps_end hl))), o0⟩
theorem field_cellsI (w : World) : Cells Try.prog w 26 fD okIF := by
  intro es h
  obtain ⟨hl, hf⟩ := h.struct Try.underlying26
  rw [show Try.prog.cellsOf 26 = 7 from by kernel_rfl] at hl
  have h0 := hf _ (List.mem_cons_self ..)
  simp only [show Try.prog.cellsOf 23 = 3 from by kernel_rfl] at h0
  obtain ⟨v0, r0, o0⟩ := ref_cellsI w _ h0
  have h1 := hf _ (List.mem_cons_of_mem _ (List.mem_cons_self ..))
  simp only [show Try.prog.cellsOf 3 = 1 from by kernel_rfl] at h1
  obtain ⟨v1, r1, o1⟩ := cells_intI Try.underlying3 h1
  have h2 := hf _ (List.mem_cons_of_mem _ (List.mem_cons_of_mem _ (List.mem_cons_self ..)))
  simp only [show Try.prog.cellsOf 9 = 1 from by kernel_rfl] at h2
  obtain ⟨v2, r2⟩ := cells_str Try.underlying9 h2
  have h3 := hf _ (List.mem_cons_of_mem _ (List.mem_cons_of_mem _ (List.mem_cons_of_mem _ (List.mem_cons_self ..))))
  simp only [show Try.prog.cellsOf 24 = 1 from by kernel_rfl] at h3
  obtain ⟨v3, r3⟩ := cells_row Try.underlying24 (show Try.prog.cellsOf 9 = 1 from by kernel_rfl) (by omega) (fun _ => rfl) (str_cells w) h3
  have h4 := hf _ (List.mem_cons_of_mem _ (List.mem_cons_of_mem _ (List.mem_cons_of_mem _ (List.mem_cons_of_mem _ (List.mem_cons_self ..)))))
  simp only [show Try.prog.cellsOf 2 = 1 from by kernel_rfl] at h4
  obtain ⟨v4, r4, o4⟩ := cells_intI Try.underlying2 h4
  exact ⟨⟨v0, v1, v2, v3, v4⟩, reps_cut (o := 0) (k := 3) r0 (reps_cut (o := 3) (k := 1) r1 (reps_cut (o := 4) (k := 1) r2 (reps_cut (o := 5) (k := 1) r3 (reps_cut (o := 6) (k := 1) r4 (reps_end hl))))), ⟨o0, o1, o4⟩⟩
theorem lens_cellsI (w : World) : Cells Try.prog w 29 lD okIL := by
  intro es h
  obtain ⟨hl, hf⟩ := h.struct Try.underlying29
  rw [show Try.prog.cellsOf 29 = 16 from by kernel_rfl] at hl
  have h0 := hf _ (List.mem_cons_self ..)
  simp only [show Try.prog.cellsOf 3 = 1 from by kernel_rfl] at h0
  obtain ⟨v0, r0, o0⟩ := cells_intI Try.underlying3 h0
  have h1 := hf _ (List.mem_cons_of_mem _ (List.mem_cons_self ..))
  simp only [show Try.prog.cellsOf 23 = 3 from by kernel_rfl] at h1
  obtain ⟨v1, r1, o1⟩ := ref_cellsI w _ h1
  have h2 := hf _ (List.mem_cons_of_mem _ (List.mem_cons_of_mem _ (List.mem_cons_self ..)))
  simp only [show Try.prog.cellsOf 9 = 1 from by kernel_rfl] at h2
  obtain ⟨v2, r2⟩ := cells_str Try.underlying9 h2
  have h3 := hf _ (List.mem_cons_of_mem _ (List.mem_cons_of_mem _ (List.mem_cons_of_mem _ (List.mem_cons_self ..))))
  simp only [show Try.prog.cellsOf 9 = 1 from by kernel_rfl] at h3
  obtain ⟨v3, r3⟩ := cells_str Try.underlying9 h3
  have h4 := hf _ (List.mem_cons_of_mem _ (List.mem_cons_of_mem _ (List.mem_cons_of_mem _ (List.mem_cons_of_mem _ (List.mem_cons_self ..)))))
  simp only [show Try.prog.cellsOf 2 = 1 from by kernel_rfl] at h4
  obtain ⟨v4, r4, o4⟩ := cells_intI Try.underlying2 h4
  have h5 := hf _ (List.mem_cons_of_mem _ (List.mem_cons_of_mem _ (List.mem_cons_of_mem _ (List.mem_cons_of_mem _ (List.mem_cons_of_mem _ (List.mem_cons_self ..))))))
  simp only [show Try.prog.cellsOf 26 = 7 from by kernel_rfl] at h5
  obtain ⟨v5, r5, o5⟩ := field_cellsI w _ h5
  have h6 := hf _ (List.mem_cons_of_mem _ (List.mem_cons_of_mem _ (List.mem_cons_of_mem _ (List.mem_cons_of_mem _ (List.mem_cons_of_mem _ (List.mem_cons_of_mem _ (List.mem_cons_self ..)))))))
  simp only [show Try.prog.cellsOf 27 = 1 from by kernel_rfl] at h6
  obtain ⟨v6, r6⟩ := cells_row Try.underlying27 (show Try.prog.cellsOf 38 = 2 from by kernel_rfl) (by omega) (fun _ => rfl) (pair_cells w) h6
  have h7 := hf _ (List.mem_cons_of_mem _ (List.mem_cons_of_mem _ (List.mem_cons_of_mem _ (List.mem_cons_of_mem _ (List.mem_cons_of_mem _ (List.mem_cons_of_mem _ (List.mem_cons_of_mem _ (List.mem_cons_self ..))))))))
  simp only [show Try.prog.cellsOf 27 = 1 from by kernel_rfl] at h7
  obtain ⟨v7, r7⟩ := cells_row Try.underlying27 (show Try.prog.cellsOf 38 = 2 from by kernel_rfl) (by omega) (fun _ => rfl) (pair_cells w) h7
  exact ⟨⟨v0, v1, v2, v3, v4, v5, v6, v7⟩, reps_cut (o := 0) (k := 1) r0 (reps_cut (o := 1) (k := 3) r1 (reps_cut (o := 4) (k := 1) r2 (reps_cut (o := 5) (k := 1) r3 (reps_cut (o := 6) (k := 1) r4 (reps_cut (o := 7) (k := 7) r5 (reps_cut (o := 14) (k := 1) r6 (reps_cut (o := 15) (k := 1) r7 (reps_end hl)))))))), ⟨o0, o1, o4, o5⟩⟩

end Go.Vm
end
section
namespace Go.Vm
open Go.RowKit Go.Proofs
set_option linter.unusedVariables false
set_option linter.unusedSimpArgs false
set_option maxRecDepth 10000

end Go.Vm
namespace Go.Proofs.Ytkgkljphjlikoaa
open Go.RowKit Go.Vm
theorem lensBytes_walk (s0 : Array Value) (a1 : Int) (a2 : Option Addr) (l2 c2 : Nat) (w : World) (r0 : Reads Try.prog w 29 s0.toList) (w1 : (Lit.int .i64 a1).wf = true) (r2 : Reads Try.prog w 39 [.slice a2 l2 c2]) :
    Calls Try.prog 4 #[.agg s0, .int .i64 a1, .slice a2 l2 c2] w fun e w' => e = .returned (.bool true) ∧ Below w.heap.size w w' := by
  obtain ⟨x0, hx0, o0⟩ := lens_cellsI w _ r0
  have hx0 := rep_agg hx0
  obtain ⟨x2, hx2, _⟩ := row_of Try.underlying39 (show Try.prog.cellsOf 5 = 1 from by kernel_rfl) (by omega) (fun _ => rfl) (u8_cells w) r2
  refine law_trueH (lensBytes_any x0 a1 x2 o0) (by simp) rfl ?_
  intro i v d hv hd
  match i, hv, hd with
  | 0, hv, hd => simp at hv hd; subst hv hd; exact hx0
  | 1, hv, hd => simp at hv hd; subst hv hd; exact Rep.sc rfl
  | 2, hv, hd => simp at hv hd; subst hv hd; exact hx2
  | i + 3, hv, _ => simp at hv
end Go.Proofs.Ytkgkljphjlikoaa
namespace Go.Vm

end Go.Vm
end
