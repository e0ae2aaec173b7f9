/- Part 6 of what the proof of TreeBytes stands on: Cd, Pn, Pt, CdR, PnR, PtR, XgV, Pg, PgR, TrEq, TrTags, TrEdge, TrSortP, TrRefP. -/
import Derived.Test.YtkgkljphjlikoaaGreatTreeBytesM5
section
namespace Go.Vm
open Go.RowKit Go.Proofs
set_option linter.unusedVariables false
set_option linter.unusedSimpArgs false
set_option maxRecDepth 10000

set_option maxHeartbeats 1000000 in
theorem codeRight_any (f : Int) : Contract Tryz.prog 54 [.sc (.int .i64 (f))] [.d (.sc (.bool (decide (fmtF f))))] := by
 refine T.fn [] Tryz.func54 ?_
 refine br (fun hg1 => ?y1) (fun hg1 => ?n1)
 all_goals (refine x_ret ?_; simp only [fitsL, fits, C.asD, and_true] <;> (refine scb ?_; simp_all [fmtF]))

set_option maxHeartbeats 1000000 in
theorem codeTurn_any (n : Int) (hn : inI64 n) : Contract Tryz.prog 127 [.sc (.int .i64 (n))] [.d (.sc (.int .u64 ((turnN n : Nat) : Int)))] := by
 refine T.fn [] Tryz.func127 ?_
 refine br (fun hc1 => ?y1) (fun hc1 => ?n1)
 case' y1 =>
  refine x_conv (pr_cv Tryz.underlying2 Tryz.underlying165 (wu64 n)) rfl ?_
  refine x_bin (pr_shl (by decide) shl1) rfl ?_
  refine x_un (un_xor64 (u64_lt _)) rfl ?_
 case' n1 =>
  refine x_conv (pr_cv Tryz.underlying2 Tryz.underlying165 (wu64 n)) rfl ?_
  refine x_bin (pr_shl (by decide) shl1) rfl ?_
 all_goals (refine x_ret ?_; simp only [fitsL, fits, C.asD, and_true] <;> (first | rw [turn_neg hn (by assumption)] | rw [turn_pos hn (by assumption)]))

set_option maxHeartbeats 1000000 in
theorem codeBack_any (u : Nat) (hu : u < 18446744073709551616) : Contract Tryz.prog 169 [.sc (.int .u64 ((u : Nat) : Int))] [.d (.sc (.int .i64 (backN u)))] := by
 refine T.fn [] Tryz.func169 ?_
 refine x_bin (pr_and (and1 hu)) rfl ?_
 refine br (fun hc1 => ?y1) (fun hc1 => ?n1)
 case' y1 =>
  refine x_bin (pr_shr (by decide) (shr1 u)) rfl ?_
  refine x_conv (pr_cv Tryz.underlying165 Tryz.underlying2 (wi64s (by omega))) rfl ?_
  refine x_un (un_xori (by omega)) rfl ?_
 case' n1 =>
  refine x_bin (pr_shr (by decide) (shr1 u)) rfl ?_
  refine x_conv (pr_cv Tryz.underlying165 Tryz.underlying2 (wi64s (by omega))) rfl ?_
 all_goals (refine x_ret ?_; simp only [fitsL, fits, C.asD, and_true] <;> (first | rw [back_odd (by omega)] | rw [back_even (by omega)]))

set_option maxHeartbeats 1000000 in
theorem codeSize_any (f n : Int) (hn : inI64 n) : Contract Tryz.prog 126 [.sc (.int .i64 (f)), .sc (.int .i64 (n))] [.d (.sc (.int .i64 ((putN f n).length)))] := by
 refine T.fn [] Tryz.func126 ?_
 have hvl := vary_len (turnN n) 0 (by decide) (turn_lt hn)
 refine br (fun hc1 => ?y1) (fun hc1 => ?n1)
 case' n1 =>
  refine br (fun hc2 => ?y2) (fun hc2 => ?n2)
  case' y2 =>
   refine x_call T.en_127 (codeTurn_any _ hn) ?_
   refine x_bin (pr_shr (by decide) (shr7 _)) rfl ?_
   refine xloopR (fb := []) T.ok (Nat.le_of_ble_eq_true rfl) [] (fun (s : Nat × Nat) => [(5, .c (.d (.sc (.int .i64 ((s.1 : Nat) : Int))))), (6, .c (.d (.sc (.int .u64 ((s.2 : Nat) : Int)))))]) (fun s => s.1 + varyL s.2 = (vary (turnN n)).length ∧ s.1 ≤ 10) (fun s => s.2) (1, turnN n / 128) ⟨(vary_step _).symm, by (try dsimp only); omega⟩ (x_ent (by first | rfl | (simp only [Tr.get]; simp; done)) (x_ent (by first | rfl | (simp only [Tr.get]; simp; done)) trivial)) ?_
   rintro s ⟨hi, hs⟩
   refine br (fun hc3 => ?y3) (fun hc3 => ?n3)
   case' y3 =>
    have hpo := varyL_pos (u := s.2) (by omega)
    first | refine x_inc ?_ | refine x_add ?_ | refine x_bin rfl rfl ?_
    refine x_bin (pr_shr (by decide) (shr7 _)) rfl ?_
    refine x_rnd (s.1 + 1, s.2 / 128) ⟨by (try dsimp only); omega, by (try dsimp only); omega⟩ (by (try dsimp only); omega) rfl (x_ent (by first | rfl | (simp only [Tr.get]; simp; done)) (x_ent (by first | rfl | (simp only [Tr.get]; simp; done)) trivial)) rfl
   case' n3 =>
    have hz : s.2 = 0 := by omega
    have hv0 : varyL s.2 = 0 := by rw [hz]; rfl
 all_goals (refine x_ret ?_; simp only [fitsL, fits, C.asD, and_true] <;> (first | (rw [putN_1 (by assumption), leN_len]; rfl) | (rw [putN_2 (by assumption) (by assumption)]; congr 2; omega) | (rw [putN_0 (by assumption) (by assumption)]; rfl)))

set_option maxHeartbeats 1000000 in
theorem codePut_any (b : List UInt8) (f n : Int) (hb : b.length ≤ 16000000) (hn : inI64 n) : Contract Tryz.prog 72 [.row (byD b), .sc (.int .i64 (f)), .sc (.int .i64 (n))] [.own 0 5 (byD (b ++ putN f n))] := by
 refine T.fn [] Tryz.func72 ?_
 have hpl := putN_len f hn
 refine x_call T.en_126 (codeSize_any _ _ hn) ?_
 refine x_len ?_
 first | refine x_inc ?_ (h := by ((try simp only [byD_len, List.length_append, List.length_nil, List.length_cons, List.length_map, Int.natCast_add]); omega)) | refine x_add ?_ (h := by first | exact IntWalk.i64_in _ (by ((try simp only [byD_len, List.length_append, List.length_nil, List.length_cons, List.length_map, Int.natCast_add]); omega)) | rfl) | refine x_bin rfl rfl ?_
 refine x_make ?_ (h1 := by ((try simp only [byD_len, List.length_append, List.length_nil, List.length_cons, List.length_map, Int.natCast_add]); omega)) (h2 := by unfold maxLen; ((try simp only [byD_len, List.length_append, List.length_nil, List.length_cons, List.length_map, Int.natCast_add]); omega))
 first | refine x_app ?_ (by first | exact one_wide | exact byD_wide _) (hz := by first | exact byD_snocN (by omega) | exact byD_snoc0 (by omega) | exact byD_app _ _ | exact byD_sl (by omega) | exact rfl | rfl) (h1 := by unfold maxLen; ((try simp only [byD_len, List.length_append, List.length_nil, List.length_cons, List.length_map, Int.natCast_add]); omega)) (h2 := by ((try simp only [byD_len, List.length_append, List.length_nil, List.length_cons, List.length_map, Int.natCast_add]); omega)) | refine x_appN ?_ (by first | exact one_wide | exact byD_wide _) (h1 := by unfold maxLen; ((try simp only [byD_len, List.length_append, List.length_nil, List.length_cons, List.length_map, Int.natCast_add]); omega)) (h2 := by ((try simp only [byD_len, List.length_append, List.length_nil, List.length_cons, List.length_map, Int.natCast_add]); omega))
 refine br (fun hc1 => ?y1) (fun hc1 => ?n1)
 case' y1 =>
  refine x_conv (pr_cv Tryz.underlying2 Tryz.underlying165 (wu64 n)) rfl ?_
  refine xloopR (fb := []) T.ok (Nat.le_of_ble_eq_true rfl) [] (fun (s : Nat × Nat × List UInt8) => [(27, .c (.d (.sc (.int .i64 ((s.1 : Nat) : Int))))), (9, .c (.d (.sc (.int .u64 ((s.2.1 : Nat) : Int))))), (8, .c (.own 18 5 (byD (b ++ s.2.2))))]) (fun s => s.1 ≤ 8 ∧ s.2.2 ++ leN (8 - s.1) s.2.1 = leN 8 (u64 n)) (fun s => 8 - s.1) (0, u64 n, []) ⟨by (try dsimp only); omega, rfl⟩ (x_ent (by first | rfl | (simp only [Tr.get]; simp; done)) (x_ent (by first | rfl | (simp only [Tr.get]; simp; done)) (x_ent (by first | rfl | (simp only [Tr.get]; simp; done)) trivial))) ?_
  rintro s ⟨hk, hi⟩
  have hsl : s.2.2.length ≤ 8 := by have := congrArg List.length hi; rw [List.length_append, leN_len, leN_len] at this; omega
  refine br (fun hc2 => ?y2) (fun hc2 => ?n2)
  case' y2 =>
   refine x_conv (pr_cv Tryz.underlying165 Tryz.underlying5 (wu8m _)) rfl ?_
   first | refine x_app ?_ (by first | exact one_wide | exact byD_wide _) (hz := by first | exact byD_snocN (by omega) | exact byD_snoc0 (by omega) | exact byD_app _ _ | exact byD_sl (by omega) | exact rfl | rfl) (h1 := by unfold maxLen; ((try simp only [byD_len, List.length_append, List.length_nil, List.length_cons, List.length_map, Int.natCast_add]); omega)) (h2 := by ((try simp only [byD_len, List.length_append, List.length_nil, List.length_cons, List.length_map, Int.natCast_add]); omega)) | refine x_appN ?_ (by first | exact one_wide | exact byD_wide _) (h1 := by unfold maxLen; ((try simp only [byD_len, List.length_append, List.length_nil, List.length_cons, List.length_map, Int.natCast_add]); omega)) (h2 := by ((try simp only [byD_len, List.length_append, List.length_nil, List.length_cons, List.length_map, Int.natCast_add]); omega))
   refine x_bin (pr_shr (by decide) (shr8 _)) rfl ?_
   first | refine x_inc ?_ (h := by ((try simp only [byD_len, List.length_append, List.length_nil, List.length_cons, List.length_map, Int.natCast_add]); omega)) | refine x_add ?_ (h := by first | exact IntWalk.i64_in _ (by ((try simp only [byD_len, List.length_append, List.length_nil, List.length_cons, List.length_map, Int.natCast_add]); omega)) | rfl) | refine x_bin rfl rfl ?_
   refine x_rnd (s.1 + 1, s.2.1 / 256, s.2.2 ++ [UInt8.ofNat (s.2.1 % 256)]) ⟨by (try dsimp only); omega, le_next (by omega) hi⟩ (by (try dsimp only); omega) rfl (x_ent (by first | rfl | (simp only [Tr.get]; simp; done)) (x_ent (by first | rfl | (simp only [Tr.get]; simp; done)) (x_ent (by first | rfl | (simp only [Tr.get]; simp; done)) trivial))) rfl
  case' n2 =>
   have h8 : s.1 = 8 := by omega
   have hfi : s.2.2 = putN f n := by rw [putN_1 (by assumption), ← hi, h8]; simp [leN]
 case' n1 =>
  refine br (fun hc3 => ?y3) (fun hc3 => ?n3)
  case' y3 =>
   refine xscopeR (fb := []) T.ok (Nat.le_of_ble_eq_true rfl) [0] (fun (s : Nat × List UInt8) => 0) (fun _ => []) (fun (s : Nat × List UInt8) => [(10, .c (.d (.sc (.int .u64 ((s.1 : Nat) : Int))))), (8, .c (.own 18 5 (byD (b ++ s.2))))]) (fun (s : Nat × List UInt8) => s.2 ++ vary s.1 = vary (turnN n) ∧ s.1 < 18446744073709551616) (fun (s : Nat × List UInt8) => s.1) (fun z _ => by rfl) (by repeat (first | exact trivial | refine And.intro (fun _ => rfl) ?_)) (fun z _ => by (repeat (first | exact trivial | refine And.intro (fun _ => rfl) ?_))) ?p1 ?f1
   case' p1 =>
    rintro s ⟨hi, hu⟩
    have hvl := vary_len (turnN n) 0 (by decide) (turn_lt hn)
    have hsl : s.2.length ≤ 10 := by have := congrArg List.length hi; rw [List.length_append] at this; omega
    refine br (fun hc4 => ?y4) (fun hc4 => ?n4)
    case' y4 =>
     refine x_bin (pr_and (and127 hu)) rfl ?_
     refine x_conv (pr_cv Tryz.underlying165 Tryz.underlying5 (wu8n (by omega))) rfl ?_
     refine x_bin (pr_or (or128 (by omega))) rfl ?_
     first | refine x_app ?_ (by first | exact one_wide | exact byD_wide _) (hz := by first | exact byD_snocN (by omega) | exact byD_snoc0 (by omega) | exact byD_app _ _ | exact byD_sl (by omega) | exact rfl | rfl) (h1 := by unfold maxLen; ((try simp only [byD_len, List.length_append, List.length_nil, List.length_cons, List.length_map, Int.natCast_add]); omega)) (h2 := by ((try simp only [byD_len, List.length_append, List.length_nil, List.length_cons, List.length_map, Int.natCast_add]); omega)) | refine x_appN ?_ (by first | exact one_wide | exact byD_wide _) (h1 := by unfold maxLen; ((try simp only [byD_len, List.length_append, List.length_nil, List.length_cons, List.length_map, Int.natCast_add]); omega)) (h2 := by ((try simp only [byD_len, List.length_append, List.length_nil, List.length_cons, List.length_map, Int.natCast_add]); omega))
     refine x_bin (pr_shr (by decide) (shr7 _)) rfl ?_
     refine x_jmp (s.1 / 128, s.2 ++ [UInt8.ofNat (s.1 % 128 + 128)]) ⟨vary_next (by omega) hi, by (try dsimp only); omega⟩ rfl (by (try dsimp only [jlt, Sum.elim_inl, Sum.elim_inr]); omega) rfl (x_ent (by first | rfl | (simp only [Tr.get]; simp; done)) (x_ent (by first | rfl | (simp only [Tr.get]; simp; done)) trivial)) rfl
    case' n4 =>
     have hfi : s.2 ++ [UInt8.ofNat (s.1 % 256)] = putN f n := by rw [putN_2 (by assumption) (by assumption)]; exact vary_last (by omega) hi
     refine x_conv (pr_cv Tryz.underlying165 Tryz.underlying5 (wu8m _)) rfl ?_
     first | refine x_app ?_ (by first | exact one_wide | exact byD_wide _) (hz := by first | exact byD_snocN (by omega) | exact byD_snoc0 (by omega) | exact byD_app _ _ | exact byD_sl (by omega) | exact rfl | rfl) (h1 := by unfold maxLen; ((try simp only [byD_len, List.length_append, List.length_nil, List.length_cons, List.length_map, Int.natCast_add]); omega)) (h2 := by ((try simp only [byD_len, List.length_append, List.length_nil, List.length_cons, List.length_map, Int.natCast_add]); omega)) | refine x_appN ?_ (by first | exact one_wide | exact byD_wide _) (h1 := by unfold maxLen; ((try simp only [byD_len, List.length_append, List.length_nil, List.length_cons, List.length_map, Int.natCast_add]); omega)) (h2 := by ((try simp only [byD_len, List.length_append, List.length_nil, List.length_cons, List.length_map, Int.natCast_add]); omega))
   case' f1 =>
    skip
    refine x_call T.en_127 (codeTurn_any _ hn) ?_
    refine x_jmp (turnN n, []) ⟨rfl, turn_lt hn⟩ rfl trivial rfl (x_ent (by first | rfl | (simp only [Tr.get]; simp; done)) (x_ent (by first | rfl | (simp only [Tr.get]; simp; done)) trivial)) rfl
 all_goals (refine x_ret ?_; simp only [fitsL, fits, C.asD, and_true] <;> (refine own_fit ?_; first | (rw [hfi]; done) | (rw [putN_0 (by assumption) (by assumption)]; simp)))

set_option maxHeartbeats 1000000 in
theorem getFixed_any (b : List UInt8) (a : Nat) (hb : b.length ≤ 16000000) (ha : a ≤ b.length) : Contract Tryz.prog 150 [.row (byD b), .sc (.int .i64 ((a : Nat)))] [.d (.sc (.int .i64 (gN (getN b a 1)))), .d (.sc (.int .i64 (gE (getN b a 1)))), .d (.sc (.int .i64 (gC 8 (getN b a 1))))] := by
 refine T.fn [] Tryz.func150 ?_
 refine x_len ?_
 first | refine x_sub ?_ | refine x_bin rfl rfl ?_
 refine br (fun hc1 => ?y1) (fun hc1 => ?n1)
 case' y1 =>
  have hg := getN_1n (b := b) (a := a) (by omega)
 case' n1 =>
  have hg := getN_1 (b := b) (a := a) (by omega)
  refine xloopR (fb := []) T.ok (Nat.le_of_ble_eq_true rfl) [0, 1] (fun (s : Nat × Nat) => [(14, .c (.d (.sc (.int .i64 ((s.1 : Nat) : Int))))), (7, .c (.d (.sc (.int .u64 ((s.2 : Nat) : Int)))))]) (fun s => s.1 ≤ 8 ∧ s.2 = leV ((b.drop a).take s.1)) (fun s => 8 - s.1) (0, 0) ⟨by decide, by simp [leV]⟩ (x_ent (by first | rfl | (simp only [Tr.get]; simp; done)) (x_ent (by first | rfl | (simp only [Tr.get]; simp; done)) trivial)) ?_
  rintro s ⟨hk, hi⟩
  refine br (fun hc2 => ?y2) (fun hc2 => ?n2)
  case' y2 =>
   obtain ⟨c, hp⟩ : ∃ c, b[a + s.1]? = some c := ⟨_, List.getElem?_eq_getElem (by omega)⟩
   have hlt := fix_lt (by omega) hi
   have hro := fix_room c (by omega) hlt
   first | refine x_inc ?_ | refine x_add ?_ | refine x_bin rfl rfl ?_
   first | refine x_ix (by exact byD_at hp) ?_ | refine x_ixI (by exact byD_at hp) ?_
   refine x_conv (pr_cv Tryz.underlying5 Tryz.underlying165 (wu64n (by have := c.toNat_lt; omega))) rfl ?_
   refine x_mul (c := ((8 * s.1 : Nat) : Int)) ?_ (h := by rw [show (8 : Int) * ((s.1 : Nat) : Int) = ((8 * s.1 : Nat) : Int) by omega]; exact wi64s (by omega))
   refine x_bin (pr_shl (Int.natCast_nonneg _) (shl64 (by omega) (by omega))) rfl ?_
   refine x_bin (pr_or (or64 hlt hro)) rfl ?_
   first | refine x_inc ?_ | refine x_add ?_ | refine x_bin rfl rfl ?_
   refine x_rnd (s.1 + 1, s.2 + c.toNat * 2 ^ (8 * s.1)) ⟨by (try dsimp only); omega, fix_next hp hi⟩ (by (try dsimp only); omega) rfl (x_ent (by first | rfl | (simp only [Tr.get]; simp; done)) (x_ent (by first | rfl | (simp only [Tr.get]; simp; done)) trivial)) rfl
  case' n2 =>
   have h8 : s.1 = 8 := by omega
   rw [h8] at hi
   have hl64 : s.2 < 18446744073709551616 := by rw [hi]; exact leV8_lt _
   rw [← hi] at hg
   refine x_conv (pr_cv Tryz.underlying165 Tryz.underlying2 (wi64 hl64)) rfl ?_
   first | refine x_inc ?_ | refine x_add ?_ | refine x_bin rfl rfl ?_
 all_goals (refine x_ret ?_; simp only [fitsL, fits, C.asD, and_true] <;> (rw [hg]; first | exact ⟨rfl, rfl, rfl⟩ | simp [gN, gE, gC]))

set_option maxHeartbeats 1000000 in
theorem getVary_any (b : List UInt8) (a : Nat) (hb : b.length ≤ 16000000) (ha : a ≤ b.length) : Contract Tryz.prog 151 [.row (byD b), .sc (.int .i64 ((a : Nat)))] [.d (.sc (.int .i64 (gN (getN b a 2)))), .d (.sc (.int .i64 (gE (getN b a 2)))), .d (.sc (.int .i64 (gC 8 (getN b a 2))))] := by
 refine T.fn [] Tryz.func151 ?_
 refine xscopeR (fb := []) T.ok (Nat.le_of_ble_eq_true rfl) [0] (fun (s : Nat × Nat) => 0) (fun _ => [0, 1]) (fun (s : Nat × Nat) => [(8, .c (.d (.sc (.int .i64 ((s.1 : Nat) : Int))))), (7, .c (.d (.sc (.int .u64 ((s.2 : Nat) : Int)))))]) (fun (s : Nat × Nat) => s.1 ≤ 9 ∧ varG 0 0 (b.drop a) = varG s.1 s.2 (b.drop (a + s.1)) ∧ s.2 < 2 ^ (7 * s.1)) (fun (s : Nat × Nat) => 10 - s.1) (fun z _ => by rfl) (by repeat (first | exact trivial | refine And.intro (fun _ => rfl) ?_)) (fun z _ => by (repeat (first | exact trivial | refine And.intro (fun _ => rfl) ?_))) ?p2 ?f2
 case' p2 =>
  rintro s ⟨hk, hi, hlt⟩
  first | refine x_inc ?_ | refine x_add ?_ | refine x_bin rfl rfl ?_
  refine x_len ?_
  refine br (fun hc1 => ?y1) (fun hc1 => ?n1)
  case' y1 =>
   have hg : getN b a 2 = none := by rw [getN_2, hi, var_end (by omega)]; rfl
  case' n1 =>
   obtain ⟨c, hp⟩ : ∃ c, b[a + s.1]? = some c := ⟨_, List.getElem?_eq_getElem (by omega)⟩
   first | refine x_inc ?_ | refine x_add ?_ | refine x_bin rfl rfl ?_
   first | refine x_ix (by exact byD_at hp) ?_ | refine x_ixI (by exact byD_at hp) ?_
   refine br (fun hg2 => ?y2) (fun hg2 => ?n2)
   case' y2 =>
    refine br (fun hc3 => ?y3) (fun hc3 => ?n3)
    case' y3 =>
     have hg : getN b a 2 = none := by rw [getN_2, hi, var_at hp, if_pos (by omega)]; rfl
    case' n3 =>
     have h9 : ¬ (s.1 = 9 ∧ 1 < c.toNat) := by omega
     have hro := var_room hk hlt h9
     refine x_bin (pr_and (and127b c)) rfl ?_
     refine x_conv (pr_cv Tryz.underlying5 Tryz.underlying165 (wu64n (by omega))) rfl ?_
     refine x_mul (c := ((7 * s.1 : Nat) : Int)) ?_ (h := by rw [show (7 : Int) * ((s.1 : Nat) : Int) = ((7 * s.1 : Nat) : Int) by omega]; exact wi64s (by omega))
     refine x_bin (pr_shl (Int.natCast_nonneg _) (shl64 (by omega) hro.2.1)) rfl ?_
     refine x_bin (pr_or (or64 hlt hro.1)) rfl ?_
     first | refine x_inc ?_ | refine x_add ?_ | refine x_bin rfl rfl ?_
     refine br (fun hc4 => ?y4) (fun hc4 => ?n4)
     case' y4 =>
      refine x_jmp (s.1 + 1, s.2 + c.toNat % 128 * 2 ^ (7 * s.1)) ⟨by (try dsimp only); omega, by rw [hi, var_at hp, if_neg h9, if_pos (by omega)], hro.2.2⟩ rfl (by (try dsimp only [jlt, Sum.elim_inl, Sum.elim_inr]); omega) rfl (x_ent (by first | rfl | (simp only [Tr.get]; simp; done)) (x_ent (by first | rfl | (simp only [Tr.get]; simp; done)) trivial)) rfl
     case' n4 =>
      refine br (fun hg5 => ?y5) (fun hg5 => ?n5)
      case' y5 =>
       refine br (fun hc6 => ?y6) (fun hc6 => ?n6)
       case' y6 =>
        have hg : getN b a 2 = none := by rw [getN_2, hi, var_at hp, if_neg h9, if_neg (by omega), if_pos (by omega)]; rfl
       case' n6 =>
        have hg : getN b a 2 = some (backN (s.2 + c.toNat % 128 * 2 ^ (7 * s.1)), a + (s.1 + 1)) := by rw [getN_2, hi, var_at hp, if_neg h9, if_neg (by omega), if_neg (by omega)]; rfl
        refine x_call T.en_169 (codeBack_any _ hro.1) ?_
        first | refine x_inc ?_ | refine x_add ?_ | refine x_bin rfl rfl ?_
      case' n5 =>
       refine brF ?_
       have hg : getN b a 2 = some (backN (s.2 + c.toNat % 128 * 2 ^ (7 * s.1)), a + (s.1 + 1)) := by rw [getN_2, hi, var_at hp, if_neg h9, if_neg (by omega), if_neg (by omega)]; rfl
       refine x_call T.en_169 (codeBack_any _ hro.1) ?_
       first | refine x_inc ?_ | refine x_add ?_ | refine x_bin rfl rfl ?_
   case' n2 =>
    refine brF ?_
    have h9 : ¬ (s.1 = 9 ∧ 1 < c.toNat) := by omega
    have hro := var_room hk hlt h9
    refine x_bin (pr_and (and127b c)) rfl ?_
    refine x_conv (pr_cv Tryz.underlying5 Tryz.underlying165 (wu64n (by omega))) rfl ?_
    refine x_mul (c := ((7 * s.1 : Nat) : Int)) ?_ (h := by rw [show (7 : Int) * ((s.1 : Nat) : Int) = ((7 * s.1 : Nat) : Int) by omega]; exact wi64s (by omega))
    refine x_bin (pr_shl (Int.natCast_nonneg _) (shl64 (by omega) hro.2.1)) rfl ?_
    refine x_bin (pr_or (or64 hlt hro.1)) rfl ?_
    first | refine x_inc ?_ | refine x_add ?_ | refine x_bin rfl rfl ?_
    refine br (fun hc9 => ?y9) (fun hc9 => ?n9)
    case' y9 =>
     refine x_jmp (s.1 + 1, s.2 + c.toNat % 128 * 2 ^ (7 * s.1)) ⟨by (try dsimp only); omega, by rw [hi, var_at hp, if_neg h9, if_pos (by omega)], hro.2.2⟩ rfl (by (try dsimp only [jlt, Sum.elim_inl, Sum.elim_inr]); omega) rfl (x_ent (by first | rfl | (simp only [Tr.get]; simp; done)) (x_ent (by first | rfl | (simp only [Tr.get]; simp; done)) trivial)) rfl
    case' n9 =>
     refine br (fun hg10 => ?y10) (fun hg10 => ?n10)
     case' y10 =>
      refine br (fun hc11 => ?y11) (fun hc11 => ?n11)
      case' y11 =>
       have hg : getN b a 2 = none := by rw [getN_2, hi, var_at hp, if_neg h9, if_neg (by omega), if_pos (by omega)]; rfl
      case' n11 =>
       have hg : getN b a 2 = some (backN (s.2 + c.toNat % 128 * 2 ^ (7 * s.1)), a + (s.1 + 1)) := by rw [getN_2, hi, var_at hp, if_neg h9, if_neg (by omega), if_neg (by omega)]; rfl
       refine x_call T.en_169 (codeBack_any _ hro.1) ?_
       first | refine x_inc ?_ | refine x_add ?_ | refine x_bin rfl rfl ?_
     case' n10 =>
      refine brF ?_
      have hg : getN b a 2 = some (backN (s.2 + c.toNat % 128 * 2 ^ (7 * s.1)), a + (s.1 + 1)) := by rw [getN_2, hi, var_at hp, if_neg h9, if_neg (by omega), if_neg (by omega)]; rfl
      refine x_call T.en_169 (codeBack_any _ hro.1) ?_
      first | refine x_inc ?_ | refine x_add ?_ | refine x_bin rfl rfl ?_
 case' f2 =>
  skip
  refine x_jmp (0, 0) ⟨by decide, rfl, by decide⟩ rfl trivial rfl (x_ent (by first | rfl | (simp only [Tr.get]; simp; done)) (x_ent (by first | rfl | (simp only [Tr.get]; simp; done)) trivial)) rfl
 all_goals (refine x_ret ?_; simp only [fitsL, fits, C.asD, and_true] <;> (rw [hg]; first | exact ⟨rfl, rfl, rfl⟩ | (simp [gN, gE, gC]; done) | (simp [gN, gE, gC]; omega)))

set_option maxHeartbeats 1000000 in
theorem codeGet_any (b : List UInt8) (a : Nat) (f : Int) (hb : b.length ≤ 16000000) (ha : a ≤ b.length) : Contract Tryz.prog 134 [.row (byD b), .sc (.int .i64 ((a : Nat))), .sc (.int .i64 (f))] [.d (.sc (.int .i64 (gN (getN b a f)))), .d (.sc (.int .i64 (gE (getN b a f)))), .d (.sc (.int .i64 (gC (if fmtF f then 8 else 2) (getN b a f))))] := by
 refine T.fn [] Tryz.func134 ?_
 refine x_call T.en_54 (codeRight_any _) ?_
 refine br (fun hg1 => ?y1) (fun hg1 => ?n1)
 case' y1 =>
  refine brT ?_
  refine brT ?_
 case' n1 =>
  refine br (fun hg4 => ?y4) (fun hg4 => ?n4)
  case' y4 =>
   refine brT ?_
  case' n4 =>
   refine x_len ?_
   refine br (fun hc6 => ?y6) (fun hc6 => ?n6)
   case' n6 =>
    refine br (fun hc7 => ?y7) (fun hc7 => ?n7)
    case' y7 =>
     subst hc7
     refine x_call T.en_150 (getFixed_any b a hb ha) ?_
    case' n7 =>
     obtain rfl : f = 2 := by rcases (show f = 1 ∨ f = 2 by assumption) with h | h; exact absurd h hc7; exact h
     refine x_call T.en_151 (getVary_any b a hb ha) ?_
 all_goals (refine x_ret ?_; simp only [fitsL, fits, C.asD, and_true] <;> (first | (exfalso; omega) | (rw [if_pos (by assumption)]; simp; done) | (rw [getN_0 (by assumption), if_neg (by assumption)]; simp [gN, gE, gC]; done)))
end Go.Vm
end
section
namespace Go.Vm
open Go.RowKit Go.Proofs
set_option linter.unusedVariables false
set_option linter.unusedSimpArgs false
set_option maxRecDepth 10000

set_option maxHeartbeats 1000000 in
theorem join_any (b m : List UInt8) (hb : b.length ≤ 8000000) (hm : m.length ≤ 8000000) : Contract Tryz.prog 53 [.row (byD b), .row (byD m)] [.own 0 5 (byD (b ++ m))] := by
 refine T.fn [] Tryz.func53 ?_
 refine x_len ?_
 refine x_len ?_
 first | refine x_inc ?_ (h := by ((try simp only [byD_len, List.length_append, List.length_nil, List.length_cons, List.length_map, Int.natCast_add]); omega)) | refine x_add ?_ (h := by first | exact IntWalk.i64_in _ (by ((try simp only [byD_len, List.length_append, List.length_nil, List.length_cons, List.length_map, Int.natCast_add]); omega)) | rfl) | refine x_bin rfl rfl ?_
 refine x_make ?_ (h1 := by ((try simp only [byD_len, List.length_append, List.length_nil, List.length_cons, List.length_map, Int.natCast_add]); omega)) (h2 := by unfold maxLen; ((try simp only [byD_len, List.length_append, List.length_nil, List.length_cons, List.length_map, Int.natCast_add]); omega))
 first | refine x_app ?_ (by first | exact one_wide | exact byD_wide _) (hz := by first | exact byD_app _ _ | exact rfl | rfl) (h1 := by unfold maxLen; ((try simp only [byD_len, List.length_append, List.length_nil, List.length_cons, List.length_map, Int.natCast_add]); omega)) (h2 := by ((try simp only [byD_len, List.length_append, List.length_nil, List.length_cons, List.length_map, Int.natCast_add]); omega)) | refine x_appN ?_ (by first | exact one_wide | exact byD_wide _) (h1 := by unfold maxLen; ((try simp only [byD_len, List.length_append, List.length_nil, List.length_cons, List.length_map, Int.natCast_add]); omega)) (h2 := by ((try simp only [byD_len, List.length_append, List.length_nil, List.length_cons, List.length_map, Int.natCast_add]); omega))
 first | refine x_app ?_ (by first | exact one_wide | exact byD_wide _) (hz := by first | exact byD_app _ _ | exact rfl | rfl) (h1 := by unfold maxLen; ((try simp only [byD_len, List.length_append, List.length_nil, List.length_cons, List.length_map, Int.natCast_add]); omega)) (h2 := by ((try simp only [byD_len, List.length_append, List.length_nil, List.length_cons, List.length_map, Int.natCast_add]); omega)) | refine x_appN ?_ (by first | exact one_wide | exact byD_wide _) (h1 := by unfold maxLen; ((try simp only [byD_len, List.length_append, List.length_nil, List.length_cons, List.length_map, Int.natCast_add]); omega)) (h2 := by ((try simp only [byD_len, List.length_append, List.length_nil, List.length_cons, List.length_map, Int.natCast_add]); omega))
 all_goals (refine x_ret ?_; simp only [fitsL, fits, C.asD, and_true] <;> (exact own_fit (by first | rfl | simp [byD])))

set_option maxHeartbeats 1000000 in
theorem penNum_any (b : List UInt8) (f n : Int) (hb : b.length ≤ 8000000) (hn : inI64 n) : Contract Tryz.prog 73 [.row (byD b), .sc (.int .i64 (f)), .sc (.int .i64 (n))] [.own 0 5 (byD (b ++ putN f n))] := by
 refine T.fn [] Tryz.func73 ?_
 refine x_call T.en_72 (codePut_any b f n (by omega) hn) ?_
 all_goals (refine x_ret ?_; simp only [fitsL, fits, C.asD, and_true] <;> (exact own_fit rfl))

set_option maxHeartbeats 1000000 in
theorem penText_any (b : List UInt8) (f : Int) (x : ByteArray) (hb : b.length ≤ 7000000) (hx : x.size ≤ 1000000) : Contract Tryz.prog 75 [.row (byD b), .sc (.int .i64 (f)), .sc (.string x)] [.own 0 5 (byD (b ++ textP f x))] := by
 refine T.fn [] Tryz.func75 ?_
 have hpl := putN_len f (n := (x.size : Nat)) (by omega)
 have hxl : x.data.toList.length = x.size := rfl
 refine x_call T.en_54 (codeRight_any _) ?_
 refine br (fun hc1 => ?y1) (fun hc1 => ?n1)
 case' y1 =>
  refine x_call T.en_53 (join_any b [] (by omega) (by simp)) ?_
 case' n1 =>
  refine x_len ?_
  refine x_call T.en_72 (codePut_any [] f (x.size : Nat) (by simp) (by omega)) ?_
  refine x_appS ?_ (hz := by first | exact byD_app _ _ | exact rfl | rfl) (h1 := by unfold maxLen; ((try simp only [byD_len, List.length_append, List.length_nil, List.length_cons, List.length_map, Int.natCast_add]); omega)) (h2 := by ((try simp only [byD_len, List.length_append, List.length_nil, List.length_cons, List.length_map, Int.natCast_add]); omega))
  refine x_call T.en_53 (join_any b (([] ++ putN f (x.size : Nat)) ++ x.data.toList) (by omega) (by (try simp only [byD_len, List.length_append, List.length_nil, List.length_cons, List.length_map, Int.natCast_add]); omega)) ?_
 all_goals (refine x_ret ?_; simp only [fitsL, fits, C.asD, and_true] <;> (refine own_fit ?_; first | (rw [textP_wrong (by assumption)]; done) | (rw [textP_right (by assumption)]; simp)))

set_option maxHeartbeats 1000000 in
theorem penRef_any (b : List UInt8) (f : Int) (r : RefD) (hb : b.length ≤ 5000000) (h0 : inI64 r.scope) (h1 : r.group.size ≤ 1000000) (h2 : r.name.size ≤ 1000000) : Contract Tryz.prog 74 [.row (byD b), .sc (.int .i64 (f)), rD r] [.own 0 5 (byD (b ++ refP f r))] := by
 refine T.fn [] Tryz.func74 ?_
 have hpl := putN_len f h0
 have hl1 := textP_len f h1
 have hl2 := textP_len f h2
 refine x_call T.en_72 (codePut_any [] f r.scope (by simp) h0) ?_
 refine x_call T.en_75 (penText_any ([] ++ putN f r.scope) f r.group (by (try simp only [byD_len, List.length_append, List.length_nil, List.length_cons, List.length_map, Int.natCast_add]); omega) h1) ?_
 refine x_call T.en_75 (penText_any (([] ++ putN f r.scope) ++ textP f r.group) f r.name (by (try simp only [byD_len, List.length_append, List.length_nil, List.length_cons, List.length_map, Int.natCast_add]); omega) h2) ?_
 refine x_call T.en_53 (join_any b ((([] ++ putN f r.scope) ++ textP f r.group) ++ textP f r.name) (by omega) (by (try simp only [byD_len, List.length_append, List.length_nil, List.length_cons, List.length_map, Int.natCast_add]); omega)) ?_
 all_goals (refine x_ret ?_; simp only [fitsL, fits, C.asD, and_true] <;> (refine own_fit ?_; unfold refP; simp))

set_option maxHeartbeats 1000000 in
theorem bad_any (t : Nat) (ht : NAM ≤ t) (b : List UInt8) (f : Int) (s : Nat × Bool) (hb : b.length ≤ 16000000) (hs : s.1 ≤ b.length) : ContractH Tryz.prog 18 [.ptr t 0] [(t, rdS b f s)] [.d (.sc (.bool (badR f s)))] [(t, rdS b f s)] := by
 refine T.fnH [] Tryz.func18 ?_ (by simp only [List.forall_mem_cons, List.not_mem_nil, false_implies, implies_true, and_true]; exact ht) (by simp [thing]) (by simp [thing])
 first | refine And.intro ⟨_, Tryz.underlying41⟩ ?_ | refine x_bin rfl rfl ?_
 refine brF ?_
 refine x_obj ht (by first | rfl | (simp only [hOf, hset, hpost, if_true, if_false, not_false_eq_true]; first | done | rfl)) ?_
 refine br (fun hg2 => ?y2) (fun hg2 => ?n2)
 case' n2 =>
  refine x_obj ht (by first | rfl | (simp only [hOf, hset, hpost, if_true, if_false, not_false_eq_true]; first | done | rfl)) ?_
  refine x_call T.en_54 (codeRight_any _) ?_
 all_goals (refine ⟨?_, ⟨⟨ht, (by first | rfl | (simp only [hOf, hset, hpost, if_true, if_false, not_false_eq_true]; first | done | rfl))⟩, trivial⟩⟩; simp only [fitsL, fits, C.asD, and_true] <;> (refine scb ?_; unfold badR; simp_all))

set_option maxHeartbeats 1000000 in
theorem spoil_any (t : Nat) (ht : NAM ≤ t) (b : List UInt8) (f : Int) (s : Nat × Bool) (hb : b.length ≤ 16000000) (hs : s.1 ≤ b.length) : ContractH Tryz.prog 52 [.ptr t 0] [(t, rdS b f s)] [] [(t, rdS b f (s.1, true))] := by
 refine T.fnH [] Tryz.func52 ?_ (by simp only [List.forall_mem_cons, List.not_mem_nil, false_implies, implies_true, and_true]; exact ht) (by simp [thing]) (by simp [thing])
 first | refine And.intro ⟨_, Tryz.underlying41⟩ ?_ | refine x_bin rfl rfl ?_
 refine brT ?_
 refine x_obj ht (by first | rfl | (simp only [hOf, hset, hpost, if_true, if_false, not_false_eq_true]; first | done | rfl)) ?_
 all_goals (refine ⟨?_, ⟨⟨ht, (by first | rfl | (simp only [hOf, hset, hpost, if_true, if_false, not_false_eq_true]; first | done | rfl))⟩, trivial⟩⟩; simp only [fitsL, fits, C.asD, and_true] <;> (trivial))

set_option maxHeartbeats 1000000 in
theorem num_any (t : Nat) (ht : NAM ≤ t) (b : List UInt8) (f : Int) (s : Nat × Bool) (hb : b.length ≤ 16000000) (hs : s.1 ≤ b.length) : ContractH Tryz.prog 94 [.ptr t 0] [(t, rdS b f s)] [.d (.sc (.int .i64 ((numR b f s).1)))] [(t, rdS b f (numR b f s).2)] := by
 refine T.fnH [7, 28] Tryz.func94 ?_ (by simp only [List.forall_mem_cons, List.not_mem_nil, false_implies, implies_true, and_true]; exact ht) (by simp [thing]) (by simp [thing])
 refine x_callR T.en_18 (bad_any t ht b f s hb hs) ?_ ⟨⟨ht, (by first | rfl | (simp only [hOf, hset, hpost, if_true, if_false, not_false_eq_true]; first | done | rfl))⟩, trivial⟩
 refine br (fun hc1 => ?y1) (fun hc1 => ?n1)
 case' y1 =>
  have hR := numR_bad (b := b) hc1
  have hg : True = True := rfl
 case' n1 =>
  have hnb : ¬ badR f s = true := by rw [hc1]; decide
  refine And.intro ⟨T.mixed, by decide +kernel⟩ ?_
  refine x_obj ht (by first | rfl | (simp only [hOf, hset, hpost, if_true, if_false, not_false_eq_true]; first | done | rfl)) ?_
  refine x_obj ht (by first | rfl | (simp only [hOf, hset, hpost, if_true, if_false, not_false_eq_true]; first | done | rfl)) ?_
  refine x_obj ht (by first | rfl | (simp only [hOf, hset, hpost, if_true, if_false, not_false_eq_true]; first | done | rfl)) ?_
  refine x_call T.en_134 (codeGet_any _ _ _ hb hs) ?_
  refine br (fun hc2 => ?y2) (fun hc2 => ?n2)
  case' y2 =>
   have hg := gC_none hc2
   have hR := numR_none hnb hg
   refine x_callH T.en_52 (spoil_any t ht b f s hb hs) ?_ ⟨⟨ht, (by first | rfl | (simp only [hOf, hset, hpost, if_true, if_false, not_false_eq_true]; first | done | rfl))⟩, trivial⟩
  case' n2 =>
   obtain ⟨x, hg⟩ := gC_some (by split <;> decide) hc2
   have hR := numR_some hnb hg
   refine x_obj ht (by first | rfl | (simp only [hOf, hset, hpost, if_true, if_false, not_false_eq_true]; first | done | rfl)) ?_
 all_goals (refine ⟨?_, ⟨⟨ht, (by rw [hR]; first | rfl | (rw [hg]; done) | (rw [hg]; simp only [hOf, hset, hpost, if_true, if_false, not_false_eq_true]; first | done | rfl) | (simp only [hOf, hset, hpost, if_true, if_false, not_false_eq_true]; first | done | rfl))⟩, trivial⟩⟩; simp only [fitsL, fits, C.asD, and_true] <;> (first | (rw [hR]; done) | (rw [hR, hg]; done) | (rw [hR, hg]; rfl)))

set_option maxHeartbeats 1000000 in
theorem left_any (t : Nat) (ht : NAM ≤ t) (b : List UInt8) (f : Int) (s : Nat × Bool) (hb : b.length ≤ 16000000) (hs : s.1 ≤ b.length) : ContractH Tryz.prog 19 [.ptr t 0] [(t, rdS b f s)] [.d (.sc (.int .i64 (leftR b f s)))] [(t, rdS b f s)] := by
 refine T.fnH [4] Tryz.func19 ?_ (by simp only [List.forall_mem_cons, List.not_mem_nil, false_implies, implies_true, and_true]; exact ht) (by simp [thing]) (by simp [thing])
 refine x_callR T.en_18 (bad_any t ht b f s hb hs) ?_ ⟨⟨ht, (by first | rfl | (simp only [hOf, hset, hpost, if_true, if_false, not_false_eq_true]; first | done | rfl))⟩, trivial⟩
 refine br (fun hc1 => ?y1) (fun hc1 => ?n1)
 case' n1 =>
  refine And.intro ⟨T.mixed, by decide +kernel⟩ ?_
  refine x_obj ht (by first | rfl | (simp only [hOf, hset, hpost, if_true, if_false, not_false_eq_true]; first | done | rfl)) ?_
  refine x_len ?_
  refine x_obj ht (by first | rfl | (simp only [hOf, hset, hpost, if_true, if_false, not_false_eq_true]; first | done | rfl)) ?_
  first | refine x_sub ?_ | refine x_bin rfl rfl ?_
 all_goals (refine ⟨?_, ⟨⟨ht, (by first | rfl | (simp only [hOf, hset, hpost, if_true, if_false, not_false_eq_true]; first | done | rfl))⟩, trivial⟩⟩; simp only [fitsL, fits, C.asD, and_true] <;> (unfold leftR; simp_all))

set_option maxHeartbeats 1000000 in
theorem end_any (t : Nat) (ht : NAM ≤ t) (b : List UInt8) (f : Int) (s : Nat × Bool) (hb : b.length ≤ 16000000) (hs : s.1 ≤ b.length) : ContractH Tryz.prog 16 [.ptr t 0] [(t, rdS b f s)] [.d (.sc (.int .i64 ((if badR f s = true ∨ 0 < leftR b f s then 8 else 0))))] [(t, rdS b f s)] := by
 refine T.fnH [4, 7] Tryz.func16 ?_ (by simp only [List.forall_mem_cons, List.not_mem_nil, false_implies, implies_true, and_true]; exact ht) (by simp [thing]) (by simp [thing])
 refine x_callR T.en_18 (bad_any t ht b f s hb hs) ?_ ⟨⟨ht, (by first | rfl | (simp only [hOf, hset, hpost, if_true, if_false, not_false_eq_true]; first | done | rfl))⟩, trivial⟩
 refine br (fun hg1 => ?y1) (fun hg1 => ?n1)
 case' y1 =>
  refine brT ?_
 case' n1 =>
  refine x_callR T.en_19 (left_any t ht b f s hb hs) ?_ ⟨⟨ht, (by first | rfl | (simp only [hOf, hset, hpost, if_true, if_false, not_false_eq_true]; first | done | rfl))⟩, trivial⟩
  refine br (fun hc3 => ?y3) (fun hc3 => ?n3)
 all_goals (refine ⟨?_, ⟨⟨ht, (by first | rfl | (simp only [hOf, hset, hpost, if_true, if_false, not_false_eq_true]; first | done | rfl))⟩, trivial⟩⟩; simp only [fitsL, fits, C.asD, and_true] <;> (simp_all))

set_option maxHeartbeats 1000000 in
theorem count_any (t : Nat) (ht : NAM ≤ t) (b : List UInt8) (f : Int) (most : Int) (s : Nat × Bool) (hb : b.length ≤ 16000000) (hs : s.1 ≤ b.length) : ContractH Tryz.prog 135 [.ptr t 0, .sc (.int .i64 (most))] [(t, rdS b f s)] [.d (.sc (.int .i64 ((countR b f most s).1)))] [(t, rdS b f (countR b f most s).2)] := by
 refine T.fnH [7, 16] Tryz.func135 ?_ (by simp only [List.forall_mem_cons, List.not_mem_nil, false_implies, implies_true, and_true]; exact ht) (by simp [thing]) (by simp [thing])
 have hn := numR_inv (f := f) hs
 refine x_callH T.en_94 (num_any t ht b f s hb hs) ?_ ⟨⟨ht, (by first | rfl | (simp only [hOf, hset, hpost, if_true, if_false, not_false_eq_true]; first | done | rfl))⟩, trivial⟩
 refine br (fun hg1 => ?y1) (fun hg1 => ?n1)
 case' y1 =>
  refine brT ?_
  have hR : countR b f most s = (0, ((numR b f s).2.1, true)) := by unfold countR; rw [if_pos (by omega)]
  refine x_callH T.en_52 (spoil_any t ht b f (numR b f s).2 hb hn) ?_ ⟨⟨ht, (by first | rfl | (simp only [hOf, hset, hpost, if_true, if_false, not_false_eq_true]; first | done | rfl))⟩, trivial⟩
 case' n1 =>
  refine br (fun hc3 => ?y3) (fun hc3 => ?n3)
  case' y3 =>
   have hR : countR b f most s = (0, ((numR b f s).2.1, true)) := by unfold countR; rw [if_pos (by omega)]
   refine x_callH T.en_52 (spoil_any t ht b f (numR b f s).2 hb hn) ?_ ⟨⟨ht, (by first | rfl | (simp only [hOf, hset, hpost, if_true, if_false, not_false_eq_true]; first | done | rfl))⟩, trivial⟩
  case' n3 =>
   have hR : countR b f most s = numR b f s := by unfold countR; rw [if_neg (by omega)]
 all_goals (refine ⟨?_, ⟨⟨ht, (by rw [hR]; first | rfl | (rw [hg]; done) | (rw [hg]; simp only [hOf, hset, hpost, if_true, if_false, not_false_eq_true]; first | done | rfl) | (simp only [hOf, hset, hpost, if_true, if_false, not_false_eq_true]; first | done | rfl))⟩, trivial⟩⟩; simp only [fitsL, fits, C.asD, and_true] <;> (rw [hR]))

set_option maxHeartbeats 1000000 in
theorem text8_any (t : Nat) (ht : NAM ≤ t) (b : List UInt8) (f : Int) (most : Int) (s : Nat × Bool) (hb : b.length ≤ 16000000) (hs : s.1 ≤ b.length) : ContractH Tryz.prog 96 [.ptr t 0, .sc (.int .i64 (most))] [(t, rdS b f s)] [.d (.sc (.string (strL (textR b f most s).1)))] [(t, rdS b f (textR b f most s).2)] := by
 refine T.fnH [8, 19, 23, 25, 48] Tryz.func96 ?_ (by simp only [List.forall_mem_cons, List.not_mem_nil, false_implies, implies_true, and_true]; exact ht) (by simp [thing]) (by simp [thing])
 have hn := numR_inv (f := f) hs
 have hni := numR_in (b := b) (f := f) (s := s)
 refine x_callH T.en_94 (num_any t ht b f s hb hs) ?_ ⟨⟨ht, (by first | rfl | (simp only [hOf, hset, hpost, if_true, if_false, not_false_eq_true]; first | done | rfl))⟩, trivial⟩
 refine br (fun hg1 => ?y1) (fun hg1 => ?n1)
 case' y1 =>
  refine brT ?_
  refine brT ?_
  have hsp : spoilT b f most s = ((numR b f s).2.1, true) := by unfold spoilT; rw [if_pos (by omega)]
  refine x_callH T.en_52 (spoil_any t ht b f (numR b f s).2 hb hn) ?_ ⟨⟨ht, (by first | rfl | (simp only [hOf, hset, hpost, if_true, if_false, not_false_eq_true]; first | done | rfl))⟩, trivial⟩
  first | refine x_callR T.en_18 (bad_any t ht b f ((numR b f s).2.1, true) hb hn) ?_ ⟨⟨ht, (by first | rfl | (simp only [hOf, hset, hpost, if_true, if_false, not_false_eq_true]; first | done | rfl))⟩, trivial⟩ | refine x_callR T.en_18 (bad_any t ht b f (numR b f s).2 hb hn) ?_ ⟨⟨ht, (by first | rfl | (simp only [hOf, hset, hpost, if_true, if_false, not_false_eq_true]; first | done | rfl))⟩, trivial⟩
  refine br (fun hc4 => ?y4) (fun hc4 => ?n4)
  case' y4 =>
   have hR := textR_bad (b := b) (by rw [hsp]; exact hc4)
   rw [hsp] at hR
  case' n4 =>
   exact absurd (hc4.symm.trans badR_spoilt) (by decide)
 case' n1 =>
  refine br (fun hg5 => ?y5) (fun hg5 => ?n5)
  case' y5 =>
   refine brT ?_
   have hsp : spoilT b f most s = ((numR b f s).2.1, true) := by unfold spoilT; rw [if_pos (by omega)]
   refine x_callH T.en_52 (spoil_any t ht b f (numR b f s).2 hb hn) ?_ ⟨⟨ht, (by first | rfl | (simp only [hOf, hset, hpost, if_true, if_false, not_false_eq_true]; first | done | rfl))⟩, trivial⟩
   first | refine x_callR T.en_18 (bad_any t ht b f ((numR b f s).2.1, true) hb hn) ?_ ⟨⟨ht, (by first | rfl | (simp only [hOf, hset, hpost, if_true, if_false, not_false_eq_true]; first | done | rfl))⟩, trivial⟩ | refine x_callR T.en_18 (bad_any t ht b f (numR b f s).2 hb hn) ?_ ⟨⟨ht, (by first | rfl | (simp only [hOf, hset, hpost, if_true, if_false, not_false_eq_true]; first | done | rfl))⟩, trivial⟩
   refine br (fun hc7 => ?y7) (fun hc7 => ?n7)
   case' y7 =>
    have hR := textR_bad (b := b) (by rw [hsp]; exact hc7)
    rw [hsp] at hR
   case' n7 =>
    exact absurd (hc7.symm.trans badR_spoilt) (by decide)
  case' n5 =>
   refine x_callR T.en_19 (left_any t ht b f (numR b f s).2 hb hn) ?_ ⟨⟨ht, (by first | rfl | (simp only [hOf, hset, hpost, if_true, if_false, not_false_eq_true]; first | done | rfl))⟩, trivial⟩
   refine br (fun hc8 => ?y8) (fun hc8 => ?n8)
   case' y8 =>
    have hsp : spoilT b f most s = ((numR b f s).2.1, true) := by unfold spoilT; rw [if_pos (by omega)]
    refine x_callH T.en_52 (spoil_any t ht b f (numR b f s).2 hb hn) ?_ ⟨⟨ht, (by first | rfl | (simp only [hOf, hset, hpost, if_true, if_false, not_false_eq_true]; first | done | rfl))⟩, trivial⟩
    first | refine x_callR T.en_18 (bad_any t ht b f ((numR b f s).2.1, true) hb hn) ?_ ⟨⟨ht, (by first | rfl | (simp only [hOf, hset, hpost, if_true, if_false, not_false_eq_true]; first | done | rfl))⟩, trivial⟩ | refine x_callR T.en_18 (bad_any t ht b f (numR b f s).2 hb hn) ?_ ⟨⟨ht, (by first | rfl | (simp only [hOf, hset, hpost, if_true, if_false, not_false_eq_true]; first | done | rfl))⟩, trivial⟩
    refine br (fun hc9 => ?y9) (fun hc9 => ?n9)
    case' y9 =>
     have hR := textR_bad (b := b) (by rw [hsp]; exact hc9)
     rw [hsp] at hR
    case' n9 =>
     exact absurd (hc9.symm.trans badR_spoilt) (by decide)
   case' n8 =>
    have hsp : spoilT b f most s = (numR b f s).2 := by unfold spoilT; rw [if_neg (by omega)]
    first | refine x_callR T.en_18 (bad_any t ht b f ((numR b f s).2.1, true) hb hn) ?_ ⟨⟨ht, (by first | rfl | (simp only [hOf, hset, hpost, if_true, if_false, not_false_eq_true]; first | done | rfl))⟩, trivial⟩ | refine x_callR T.en_18 (bad_any t ht b f (numR b f s).2 hb hn) ?_ ⟨⟨ht, (by first | rfl | (simp only [hOf, hset, hpost, if_true, if_false, not_false_eq_true]; first | done | rfl))⟩, trivial⟩
    refine br (fun hc10 => ?y10) (fun hc10 => ?n10)
    case' y10 =>
     have hR := textR_bad (b := b) (by rw [hsp]; exact hc10)
     rw [hsp] at hR
    case' n10 =>
     have hnb := hc10
     replace hnb := Bool.eq_false_iff.1 hnb
     have hR := textR_ok (b := b) (by rw [hsp]; exact hnb)
     obtain ⟨_, _, hk0, hk1, hk2⟩ := spoilT_ok (b := b) (by rw [hsp]; exact hnb)
     refine x_obj ht (by first | rfl | (simp only [hOf, hset, hpost, if_true, if_false, not_false_eq_true]; first | done | rfl)) ?_
     refine x_obj ht (by first | rfl | (simp only [hOf, hset, hpost, if_true, if_false, not_false_eq_true]; first | done | rfl)) ?_
     refine x_add (c := (((numR b f s).2.1 + (numR b f s).1.toNat : Nat) : Int)) ?_ (h := by rw [show (((numR b f s).2.1 : Nat) : Int) + (numR b f s).1 = (((numR b f s).2.1 + (numR b f s).1.toNat : Nat) : Int) by omega]; exact wi64s (by omega))
     refine x_obj ht (by first | rfl | (simp only [hOf, hset, hpost, if_true, if_false, not_false_eq_true]; first | done | rfl)) ?_
     refine And.intro ⟨T.mixed, by decide +kernel⟩ ?_
     refine x_obj ht (by first | rfl | (simp only [hOf, hset, hpost, if_true, if_false, not_false_eq_true]; first | done | rfl)) ?_
     refine x_obj ht (by first | rfl | (simp only [hOf, hset, hpost, if_true, if_false, not_false_eq_true]; first | done | rfl)) ?_
     first | refine x_bnd ?_ | refine x_bndI ?_
     first | refine x_bnd ?_ | refine x_bndI ?_
     refine x_row ?_ (by first | exact one_wide | exact byD_wide _) (h1 := by ((try simp only [byD_len, List.length_append, List.length_nil, List.length_cons, List.length_map, Int.natCast_add]); omega)) (h2 := by ((try simp only [byD_len, List.length_append, List.length_nil, List.length_cons, List.length_map, Int.natCast_add]); omega)) (hy := by first | exact byD_sl (n := (numR b f s).1.toNat) (by omega) | exact rfl | rfl)
     refine q_tostr Tryz.underlying34 Tryz.underlying5 Tryz.underlying9 (l := (b.drop (numR b f s).2.1).take (numR b f s).1.toNat) ?_
 all_goals (refine ⟨?_, ⟨⟨ht, (by rw [hR]; first | rfl | (rw [hg]; done) | (rw [hg]; simp only [hOf, hset, hpost, if_true, if_false, not_false_eq_true]; first | done | rfl) | (simp only [hOf, hset, hpost, if_true, if_false, not_false_eq_true]; first | done | rfl))⟩, trivial⟩⟩; simp only [fitsL, fits, C.asD, and_true] <;> (rw [hR]))

set_option maxHeartbeats 1000000 in
theorem ref8_any (t : Nat) (ht : NAM ≤ t) (b : List UInt8) (f : Int) (s : Nat × Bool) (hb : b.length ≤ 16000000) (hs : s.1 ≤ b.length) : ContractH Tryz.prog 95 [.ptr t 0] [(t, rdS b f s)] [.d (rD (refR b f s).1)] [(t, rdS b f (refR b f s).2)] := by
 refine T.fnH [5, 8, 11, 14] Tryz.func95 ?_ (by simp only [List.forall_mem_cons, List.not_mem_nil, false_implies, implies_true, and_true]; exact ht) (by simp [thing]) (by simp [thing])
 have hn := numR_inv (f := f) hs
 have hn2 := textR_inv (f := f) (most := 12) hn
 have hn3 := textR_inv (f := f) (most := 12) hn2
 refine x_callH T.en_94 (num_any t ht b f s hb hs) ?_ ⟨⟨ht, (by first | rfl | (simp only [hOf, hset, hpost, if_true, if_false, not_false_eq_true]; first | done | rfl))⟩, trivial⟩
 refine x_callH T.en_96 (text8_any t ht b f 12 (numR b f s).2 hb hn) ?_ ⟨⟨ht, (by first | rfl | (simp only [hOf, hset, hpost, if_true, if_false, not_false_eq_true]; first | done | rfl))⟩, trivial⟩
 refine x_callH T.en_96 (text8_any t ht b f 12 (textR b f 12 (numR b f s).2).2 hb hn2) ?_ ⟨⟨ht, (by first | rfl | (simp only [hOf, hset, hpost, if_true, if_false, not_false_eq_true]; first | done | rfl))⟩, trivial⟩
 refine x_callR T.en_18 (bad_any t ht b f (textR b f 12 (textR b f 12 (numR b f s).2).2).2 hb hn3) ?_ ⟨⟨ht, (by first | rfl | (simp only [hOf, hset, hpost, if_true, if_false, not_false_eq_true]; first | done | rfl))⟩, trivial⟩
 refine br (fun hc1 => ?y1) (fun hc1 => ?n1)
 all_goals (refine ⟨?_, ⟨⟨ht, (by first | rfl | (simp only [hOf, hset, hpost, if_true, if_false, not_false_eq_true]; first | done | rfl))⟩, trivial⟩⟩; simp only [fitsL, fits, C.asD, and_true] <;> (unfold refR; simp only; first | (rw [if_pos (by assumption)]; rfl) | (rw [if_neg (by simp_all)]; rfl)))

set_option maxHeartbeats 1000000 in
theorem tag8_any (t : Nat) (ht : NAM ≤ t) (b : List UInt8) (f : Int) (s : Nat × Bool) (hb : b.length ≤ 16000000) (hs : s.1 ≤ b.length) : ContractH Tryz.prog 50 [.ptr t 0] [(t, rdS b f s)] [.d (.agg [.sc (.int .i64 (tagR b f s).1.1), .sc (.int .i64 (tagR b f s).1.2)])] [(t, rdS b f (tagR b f s).2)] := by
 refine T.fnH [5, 7, 10] Tryz.func50 ?_ (by simp only [List.forall_mem_cons, List.not_mem_nil, false_implies, implies_true, and_true]; exact ht) (by simp [thing]) (by simp [thing])
 have hn := numR_inv (f := f) hs
 have hn2 := numR_inv (f := f) hn
 refine x_callH T.en_94 (num_any t ht b f s hb hs) ?_ ⟨⟨ht, (by first | rfl | (simp only [hOf, hset, hpost, if_true, if_false, not_false_eq_true]; first | done | rfl))⟩, trivial⟩
 refine x_callH T.en_94 (num_any t ht b f (numR b f s).2 hb hn) ?_ ⟨⟨ht, (by first | rfl | (simp only [hOf, hset, hpost, if_true, if_false, not_false_eq_true]; first | done | rfl))⟩, trivial⟩
 refine x_callR T.en_18 (bad_any t ht b f (numR b f (numR b f s).2).2 hb hn2) ?_ ⟨⟨ht, (by first | rfl | (simp only [hOf, hset, hpost, if_true, if_false, not_false_eq_true]; first | done | rfl))⟩, trivial⟩
 refine br (fun hc1 => ?y1) (fun hc1 => ?n1)
 all_goals (refine ⟨?_, ⟨⟨ht, (by first | rfl | (simp only [hOf, hset, hpost, if_true, if_false, not_false_eq_true]; first | done | rfl))⟩, trivial⟩⟩; simp only [fitsL, fits, C.asD, and_true] <;> (unfold tagR; first | (rw [if_pos (by assumption)]; done) | (rw [if_neg (by simp_all)]; done)))

set_option maxHeartbeats 1000000 in
theorem penTag_any (b : List UInt8) (f r n : Int) (hb : b.length ≤ 5000000) (h0 : inI64 r) (h1 : inI64 n) : Contract Tryz.prog 42 [.row (byD b), .sc (.int .i64 (f)), .agg [.sc (.int .i64 r), .sc (.int .i64 n)]] [.own 0 5 (byD (b ++ tagP f r n))] := by
 refine T.fn [] Tryz.func42 ?_
 have hpl := putN_len f h0
 have hpl2 := putN_len f h1
 refine And.intro ⟨T.mixed, by decide +kernel⟩ ?_
 refine x_call T.en_72 (codePut_any [] f r (by simp) h0) ?_
 refine x_call T.en_72 (codePut_any ([] ++ putN f r) f n (by (try simp only [byD_len, List.length_append, List.length_nil, List.length_cons, List.length_map, Int.natCast_add]); omega) h1) ?_
 refine x_call T.en_53 (join_any b (([] ++ putN f r) ++ putN f n) (by omega) (by (try simp only [byD_len, List.length_append, List.length_nil, List.length_cons, List.length_map, Int.natCast_add]); omega)) ?_
 all_goals (refine x_ret ?_; simp only [fitsL, fits, C.asD, and_true] <;> (refine own_fit ?_; unfold tagP; simp))

set_option maxHeartbeats 1000000 in
theorem penNew_any (t : Nat) (ht : NAM ≤ t) (b : List UInt8) (f : Int) (hb : b.length ≤ 8000000) : ContractH Tryz.prog 13 [.row (byD b), .sc (.int .i64 (f))] [(t, .free)] [.d (.ptr t 0)] [(t, rdS b f (0, !decide (fmtF f)))] := by
 refine T.fnH [12] Tryz.func13 ?_ (by simp only [List.forall_mem_cons, List.not_mem_nil, false_implies, implies_true, and_true]; exact ht) (by simp [thing]) (by simp [thing])
 refine x_call T.en_53 (join_any b [] hb (by simp)) ?_
 refine x_call T.en_54 (codeRight_any _) ?_
 refine x_newbox t ?_ ⟨ht, (by first | rfl | (simp only [hOf, hset, hpost, if_true, if_false, not_false_eq_true]; first | done | rfl))⟩
 all_goals (refine ⟨?_, ⟨⟨ht, by first | rfl | (simp only [hOf, hset, hpost, if_true, if_false, not_false_eq_true, List.append_nil]; first | done | rfl)⟩, trivial⟩⟩; simp only [fitsL, fits, C.asD, and_true] <;> (trivial))
end Go.Vm
end
section
namespace Go.Vm
open Go.RowKit Go.Proofs
set_option linter.unusedVariables false
set_option linter.unusedSimpArgs false
set_option maxRecDepth 10000

set_option maxHeartbeats 1000000 in
theorem fieldPut_any (b : List UInt8) (f : Int) (x : FieldD) (hb : b.length ≤ 1000000) (h : OkF x) : Contract Tryz.prog 77 [.row (byD b), .sc (.int .i64 (f)), fD x] [.own 0 5 (byD (b ++ fieldP f x))] := by
 refine T.fn [] Tryz.func77 ?_
 have hl1 := refP_len (f := f) h.scope h.group h.name
 have hl2 := putN_len f h.kind
 have hl3 := textP_len f (s := x.deft) (by have := h.deft; omega)
 have hl4 := putN_len f (n := (x.cases.length : Nat)) (by have := h.cases; omega)
 have hl5 := putN_len f h.worth
 have hd := h.deft
 have hcl := h.cases
 refine x_call T.en_74 (penRef_any [] f x.at_ (by simp) h.scope (by have := h.group; omega) (by have := h.name; omega)) ?_
 refine x_call T.en_73 (penNum_any ([] ++ refP f x.at_) f x.kind (by (try simp only [byD_len, List.length_append, List.length_nil, List.length_cons, List.length_map, Int.natCast_add]); omega) h.kind) ?_
 refine x_call T.en_75 (penText_any (([] ++ refP f x.at_) ++ putN f x.kind) f x.deft (by (try simp only [byD_len, List.length_append, List.length_nil, List.length_cons, List.length_map, Int.natCast_add]); omega) (by omega)) ?_
 refine x_len ?_
 refine x_call T.en_73 (penNum_any ((([] ++ refP f x.at_) ++ putN f x.kind) ++ textP f x.deft) f (x.cases.length : Nat) (by (try simp only [byD_len, List.length_append, List.length_nil, List.length_cons, List.length_map, Int.natCast_add]); omega) (by omega)) ?_
 refine x_len ?_
 refine xloopR (fb := []) T.ok (Nat.le_of_ble_eq_true rfl) [0, 1, 5, 32, 33] (fun (k : Nat) => [(34, .c (.d (.sc (.int .i64 (k : Nat))))), (7, .c (.own 30 5 (byD ((((([] ++ refP f x.at_) ++ putN f x.kind) ++ textP f x.deft) ++ putN f (x.cases.length : Nat)) ++ textsP f (x.cases.take k)))))]) (fun k => k ≤ x.cases.length) (fun k => x.cases.length - k) 0 (Nat.zero_le _) (x_ent (by first | rfl | (simp only [Tr.get]; simp; done)) (x_ent (by simp only [Tr.get]; simp [textsP, pairsB]) trivial)) ?_
 rintro k hk
 have htl := textsP_takeL (f := f) (k := k) h.cases h.each
 refine br (fun hc1 => ?y1) (fun hc1 => ?n1)
 case' y1 =>
  obtain ⟨p, hp⟩ := elem_at hc1
  have hkl := lt_len hp
  have hps := h.each p (List.mem_of_getElem? hp)
  have hpl := textP_len f (s := p) (by omega)
  first | refine x_ix (by exact mapAt hp) ?_ | refine x_ixI (by exact mapAt hp) ?_
  refine x_call T.en_75 (penText_any [] f p (by simp) (by omega)) ?_
  first | refine x_app ?_ (by first | exact one_wide | exact byD_wide _) (hz := by first | exact byD_app _ _ | exact rfl | rfl) (h1 := by unfold maxLen; ((try simp only [byD_len, List.length_append, List.length_nil, List.length_cons, List.length_map, Int.natCast_add]); omega)) (h2 := by ((try simp only [byD_len, List.length_append, List.length_nil, List.length_cons, List.length_map, Int.natCast_add]); omega)) | refine x_appN ?_ (by first | exact one_wide | exact byD_wide _) (h1 := by unfold maxLen; ((try simp only [byD_len, List.length_append, List.length_nil, List.length_cons, List.length_map, Int.natCast_add]); omega)) (h2 := by ((try simp only [byD_len, List.length_append, List.length_nil, List.length_cons, List.length_map, Int.natCast_add]); omega))
  first | refine x_inc ?_ (h := by ((try simp only [byD_len, List.length_append, List.length_nil, List.length_cons, List.length_map, Int.natCast_add]); omega)) | refine x_add ?_ (h := by first | exact IntWalk.i64_in _ (by ((try simp only [byD_len, List.length_append, List.length_nil, List.length_cons, List.length_map, Int.natCast_add]); omega)) | rfl) | refine x_bin rfl rfl ?_
  refine x_rnd (k + 1) (lt_len hp) (by (try dsimp only); have := lt_len hp; omega) rfl (x_ent (by first | rfl | (simp only [Tr.get]; simp; done)) (x_ent (by simp only [Tr.get]; rw [textsP_take hp]; simp) trivial)) rfl
 case' n1 =>
  have hend : x.cases.take k = x.cases := List.take_of_length_le (past_end hc1)
  refine x_call T.en_73 (penNum_any ((((([] ++ refP f x.at_) ++ putN f x.kind) ++ textP f x.deft) ++ putN f (x.cases.length : Nat)) ++ textsP f (x.cases.take k)) f x.worth (by (try simp only [byD_len, List.length_append, List.length_nil, List.length_cons, List.length_map, Int.natCast_add]); omega) h.worth) ?_
  refine x_len ?_
  refine x_len ?_
  refine x_add ?_ (h := IntWalk.i64_in _ (by (try simp only [byD_len, List.length_append, List.length_nil, List.length_cons, List.length_map, Int.natCast_add]); omega))
  refine x_make ?_ (h1 := by ((try simp only [byD_len, List.length_append, List.length_nil, List.length_cons, List.length_map, Int.natCast_add]); omega)) (h2 := by unfold maxLen; ((try simp only [byD_len, List.length_append, List.length_nil, List.length_cons, List.length_map, Int.natCast_add]); omega))
  first | refine x_app ?_ (by first | exact one_wide | exact byD_wide _) (hz := by first | exact byD_app _ _ | exact rfl | rfl) (h1 := by unfold maxLen; ((try simp only [byD_len, List.length_append, List.length_nil, List.length_cons, List.length_map, Int.natCast_add]); omega)) (h2 := by ((try simp only [byD_len, List.length_append, List.length_nil, List.length_cons, List.length_map, Int.natCast_add]); omega)) | refine x_appN ?_ (by first | exact one_wide | exact byD_wide _) (h1 := by unfold maxLen; ((try simp only [byD_len, List.length_append, List.length_nil, List.length_cons, List.length_map, Int.natCast_add]); omega)) (h2 := by ((try simp only [byD_len, List.length_append, List.length_nil, List.length_cons, List.length_map, Int.natCast_add]); omega))
  first | refine x_app ?_ (by first | exact one_wide | exact byD_wide _) (hz := by first | exact byD_app _ _ | exact rfl | rfl) (h1 := by unfold maxLen; ((try simp only [byD_len, List.length_append, List.length_nil, List.length_cons, List.length_map, Int.natCast_add]); omega)) (h2 := by ((try simp only [byD_len, List.length_append, List.length_nil, List.length_cons, List.length_map, Int.natCast_add]); omega)) | refine x_appN ?_ (by first | exact one_wide | exact byD_wide _) (h1 := by unfold maxLen; ((try simp only [byD_len, List.length_append, List.length_nil, List.length_cons, List.length_map, Int.natCast_add]); omega)) (h2 := by ((try simp only [byD_len, List.length_append, List.length_nil, List.length_cons, List.length_map, Int.natCast_add]); omega))
 all_goals (refine x_ret ?_; simp only [fitsL, fits, C.asD, and_true] <;> (refine own_fit ?_; rw [hend]; unfold fieldP; simp [byD]))

set_option maxHeartbeats 1000000 in
theorem putPairs_any (b : List UInt8) (f : Int) (l : List (ByteArray × ByteArray)) (hb : b.length ≤ 1000000) (hl : l.length ≤ 20) (h : ∀ t ∈ l, t.1.size ≤ 200 ∧ t.2.size ≤ 200) : Contract Tryz.prog 76 [.row (byD b), .sc (.int .i64 (f)), .row (l.map pairD)] [.own 0 5 (byD (b ++ pairsP f l))] := by
 refine T.fn [] Tryz.func76 ?_
 have hl4 := putN_len f (n := (l.length : Nat)) (by omega)
 refine x_len ?_
 refine x_call T.en_73 (penNum_any b f (l.length : Nat) (by omega) (by omega)) ?_
 refine x_len ?_
 refine xloopR (fb := []) T.ok (Nat.le_of_ble_eq_true rfl) [1, 14, 15] (fun (k : Nat) => [(16, .c (.d (.sc (.int .i64 (k : Nat))))), (0, .c (.own 13 5 (byD ((b ++ putN f (l.length : Nat)) ++ pairsB f (l.take k)))))]) (fun k => k ≤ l.length) (fun k => l.length - k) 0 (Nat.zero_le _) (x_ent (by first | rfl | (simp only [Tr.get]; simp; done)) (x_ent (by simp only [Tr.get]; simp [textsP, pairsB]) trivial)) ?_
 rintro k hk
 have htl := pairsB_takeL (f := f) (k := k) hl h
 refine br (fun hc1 => ?y1) (fun hc1 => ?n1)
 case' y1 =>
  obtain ⟨p, hp⟩ := elem_at hc1
  have hkl := lt_len hp
  have hps := h p (List.mem_of_getElem? hp)
  have hpl := textP_len f (s := p.1) (by omega)
  have hpl2 := textP_len f (s := p.2) (by omega)
  first | refine x_ix (by exact mapAt hp) ?_ | refine x_ixI (by exact mapAt hp) ?_
  refine x_call T.en_75 (penText_any [] f p.1 (by simp) (by omega)) ?_
  first | refine x_app ?_ (by first | exact one_wide | exact byD_wide _) (hz := by first | exact byD_app _ _ | exact rfl | rfl) (h1 := by unfold maxLen; ((try simp only [byD_len, List.length_append, List.length_nil, List.length_cons, List.length_map, Int.natCast_add]); omega)) (h2 := by ((try simp only [byD_len, List.length_append, List.length_nil, List.length_cons, List.length_map, Int.natCast_add]); omega)) | refine x_appN ?_ (by first | exact one_wide | exact byD_wide _) (h1 := by unfold maxLen; ((try simp only [byD_len, List.length_append, List.length_nil, List.length_cons, List.length_map, Int.natCast_add]); omega)) (h2 := by ((try simp only [byD_len, List.length_append, List.length_nil, List.length_cons, List.length_map, Int.natCast_add]); omega))
  refine x_call T.en_75 (penText_any [] f p.2 (by simp) (by omega)) ?_
  first | refine x_app ?_ (by first | exact one_wide | exact byD_wide _) (hz := by first | exact byD_app _ _ | exact rfl | rfl) (h1 := by unfold maxLen; ((try simp only [byD_len, List.length_append, List.length_nil, List.length_cons, List.length_map, Int.natCast_add]); omega)) (h2 := by ((try simp only [byD_len, List.length_append, List.length_nil, List.length_cons, List.length_map, Int.natCast_add]); omega)) | refine x_appN ?_ (by first | exact one_wide | exact byD_wide _) (h1 := by unfold maxLen; ((try simp only [byD_len, List.length_append, List.length_nil, List.length_cons, List.length_map, Int.natCast_add]); omega)) (h2 := by ((try simp only [byD_len, List.length_append, List.length_nil, List.length_cons, List.length_map, Int.natCast_add]); omega))
  first | refine x_inc ?_ (h := by ((try simp only [byD_len, List.length_append, List.length_nil, List.length_cons, List.length_map, Int.natCast_add]); omega)) | refine x_add ?_ (h := by first | exact IntWalk.i64_in _ (by ((try simp only [byD_len, List.length_append, List.length_nil, List.length_cons, List.length_map, Int.natCast_add]); omega)) | rfl) | refine x_bin rfl rfl ?_
  refine x_rnd (k + 1) (lt_len hp) (by (try dsimp only); have := lt_len hp; omega) rfl (x_ent (by first | rfl | (simp only [Tr.get]; simp; done)) (x_ent (by simp only [Tr.get]; rw [pairsB_take hp]; simp) trivial)) rfl
 case' n1 =>
  have hend : l.take k = l := List.take_of_length_le (past_end hc1)
 all_goals (refine x_ret ?_; simp only [fitsL, fits, C.asD, and_true] <;> (refine own_fit ?_; rw [hend]; unfold pairsP; simp [byD]))

set_option maxHeartbeats 1000000 in
theorem lensPut_any (b : List UInt8) (f : Int) (x : LensD) (hb : b.length ≤ 1000000) (h : OkB x) : Contract Tryz.prog 43 [.row (byD b), .sc (.int .i64 (f)), lD x] [.own 0 5 (byD (b ++ lensP f x))] := by
 refine T.fn [] Tryz.func43 ?_
 have hl0 := putN_len f h.kind
 have hl1 := refP_len (f := f) h.scope h.group h.rname
 have hl2 := textP_len f (s := x.name) (by have := h.name; omega)
 have hl3 := textP_len f (s := x.other) (by have := h.other; omega)
 have hl4 := putN_len f h.factor
 have hl5 := pairsP_len (f := f) h.forth h.feach
 have hl6 := pairsP_len (f := f) h.back h.beach
 have hl7 := fieldP_len (f := f) h.field
 have hd1 := h.name
 have hd2 := h.other
 refine x_call T.en_73 (penNum_any [] f x.kind (by simp) h.kind) ?_
 refine x_call T.en_74 (penRef_any ([] ++ putN f x.kind) f x.at_ (by (try simp only [byD_len, List.length_append, List.length_nil, List.length_cons, List.length_map, Int.natCast_add]); omega) h.scope (by have := h.group; omega) (by have := h.rname; omega)) ?_
 refine x_call T.en_75 (penText_any (([] ++ putN f x.kind) ++ refP f x.at_) f x.name (by (try simp only [byD_len, List.length_append, List.length_nil, List.length_cons, List.length_map, Int.natCast_add]); omega) (by omega)) ?_
 refine x_call T.en_75 (penText_any ((([] ++ putN f x.kind) ++ refP f x.at_) ++ textP f x.name) f x.other (by (try simp only [byD_len, List.length_append, List.length_nil, List.length_cons, List.length_map, Int.natCast_add]); omega) (by omega)) ?_
 refine x_call T.en_73 (penNum_any (((([] ++ putN f x.kind) ++ refP f x.at_) ++ textP f x.name) ++ textP f x.other) f x.factor (by (try simp only [byD_len, List.length_append, List.length_nil, List.length_cons, List.length_map, Int.natCast_add]); omega) h.factor) ?_
 refine x_call T.en_76 (putPairs_any ((((([] ++ putN f x.kind) ++ refP f x.at_) ++ textP f x.name) ++ textP f x.other) ++ putN f x.factor) f x.forth (by (try simp only [byD_len, List.length_append, List.length_nil, List.length_cons, List.length_map, Int.natCast_add]); omega) h.forth h.feach) ?_
 refine x_call T.en_76 (putPairs_any (((((([] ++ putN f x.kind) ++ refP f x.at_) ++ textP f x.name) ++ textP f x.other) ++ putN f x.factor) ++ pairsP f x.forth) f x.back (by (try simp only [byD_len, List.length_append, List.length_nil, List.length_cons, List.length_map, Int.natCast_add]); omega) h.back h.beach) ?_
 refine br (fun hg1 => ?y1) (fun hg1 => ?n1)
 case' y1 =>
  refine brT ?_
  refine x_call T.en_77 (fieldPut_any [] f x.field (by simp) h.field) ?_
  first | refine x_app ?_ (by first | exact one_wide | exact byD_wide _) (hz := by first | exact byD_app _ _ | exact rfl | rfl) (h1 := by unfold maxLen; ((try simp only [byD_len, List.length_append, List.length_nil, List.length_cons, List.length_map, Int.natCast_add]); omega)) (h2 := by ((try simp only [byD_len, List.length_append, List.length_nil, List.length_cons, List.length_map, Int.natCast_add]); omega)) | refine x_appN ?_ (by first | exact one_wide | exact byD_wide _) (h1 := by unfold maxLen; ((try simp only [byD_len, List.length_append, List.length_nil, List.length_cons, List.length_map, Int.natCast_add]); omega)) (h2 := by ((try simp only [byD_len, List.length_append, List.length_nil, List.length_cons, List.length_map, Int.natCast_add]); omega))
  refine x_len ?_
  refine x_len ?_
  refine x_add ?_ (h := IntWalk.i64_in _ (by (try simp only [byD_len, List.length_append, List.length_nil, List.length_cons, List.length_map, Int.natCast_add]); omega))
  refine x_make ?_ (h1 := by ((try simp only [byD_len, List.length_append, List.length_nil, List.length_cons, List.length_map, Int.natCast_add]); omega)) (h2 := by unfold maxLen; ((try simp only [byD_len, List.length_append, List.length_nil, List.length_cons, List.length_map, Int.natCast_add]); omega))
  first | refine x_app ?_ (by first | exact one_wide | exact byD_wide _) (hz := by first | exact byD_app _ _ | exact rfl | rfl) (h1 := by unfold maxLen; ((try simp only [byD_len, List.length_append, List.length_nil, List.length_cons, List.length_map, Int.natCast_add]); omega)) (h2 := by ((try simp only [byD_len, List.length_append, List.length_nil, List.length_cons, List.length_map, Int.natCast_add]); omega)) | refine x_appN ?_ (by first | exact one_wide | exact byD_wide _) (h1 := by unfold maxLen; ((try simp only [byD_len, List.length_append, List.length_nil, List.length_cons, List.length_map, Int.natCast_add]); omega)) (h2 := by ((try simp only [byD_len, List.length_append, List.length_nil, List.length_cons, List.length_map, Int.natCast_add]); omega))
  first | refine x_app ?_ (by first | exact one_wide | exact byD_wide _) (hz := by first | exact byD_app _ _ | exact rfl | rfl) (h1 := by unfold maxLen; ((try simp only [byD_len, List.length_append, List.length_nil, List.length_cons, List.length_map, Int.natCast_add]); omega)) (h2 := by ((try simp only [byD_len, List.length_append, List.length_nil, List.length_cons, List.length_map, Int.natCast_add]); omega)) | refine x_appN ?_ (by first | exact one_wide | exact byD_wide _) (h1 := by unfold maxLen; ((try simp only [byD_len, List.length_append, List.length_nil, List.length_cons, List.length_map, Int.natCast_add]); omega)) (h2 := by ((try simp only [byD_len, List.length_append, List.length_nil, List.length_cons, List.length_map, Int.natCast_add]); omega))
 case' n1 =>
  refine br (fun hc3 => ?y3) (fun hc3 => ?n3)
  case' y3 =>
   refine x_call T.en_77 (fieldPut_any [] f x.field (by simp) h.field) ?_
   first | refine x_app ?_ (by first | exact one_wide | exact byD_wide _) (hz := by first | exact byD_app _ _ | exact rfl | rfl) (h1 := by unfold maxLen; ((try simp only [byD_len, List.length_append, List.length_nil, List.length_cons, List.length_map, Int.natCast_add]); omega)) (h2 := by ((try simp only [byD_len, List.length_append, List.length_nil, List.length_cons, List.length_map, Int.natCast_add]); omega)) | refine x_appN ?_ (by first | exact one_wide | exact byD_wide _) (h1 := by unfold maxLen; ((try simp only [byD_len, List.length_append, List.length_nil, List.length_cons, List.length_map, Int.natCast_add]); omega)) (h2 := by ((try simp only [byD_len, List.length_append, List.length_nil, List.length_cons, List.length_map, Int.natCast_add]); omega))
   refine x_len ?_
   refine x_len ?_
   refine x_add ?_ (h := IntWalk.i64_in _ (by (try simp only [byD_len, List.length_append, List.length_nil, List.length_cons, List.length_map, Int.natCast_add]); omega))
   refine x_make ?_ (h1 := by ((try simp only [byD_len, List.length_append, List.length_nil, List.length_cons, List.length_map, Int.natCast_add]); omega)) (h2 := by unfold maxLen; ((try simp only [byD_len, List.length_append, List.length_nil, List.length_cons, List.length_map, Int.natCast_add]); omega))
   first | refine x_app ?_ (by first | exact one_wide | exact byD_wide _) (hz := by first | exact byD_app _ _ | exact rfl | rfl) (h1 := by unfold maxLen; ((try simp only [byD_len, List.length_append, List.length_nil, List.length_cons, List.length_map, Int.natCast_add]); omega)) (h2 := by ((try simp only [byD_len, List.length_append, List.length_nil, List.length_cons, List.length_map, Int.natCast_add]); omega)) | refine x_appN ?_ (by first | exact one_wide | exact byD_wide _) (h1 := by unfold maxLen; ((try simp only [byD_len, List.length_append, List.length_nil, List.length_cons, List.length_map, Int.natCast_add]); omega)) (h2 := by ((try simp only [byD_len, List.length_append, List.length_nil, List.length_cons, List.length_map, Int.natCast_add]); omega))
   first | refine x_app ?_ (by first | exact one_wide | exact byD_wide _) (hz := by first | exact byD_app _ _ | exact rfl | rfl) (h1 := by unfold maxLen; ((try simp only [byD_len, List.length_append, List.length_nil, List.length_cons, List.length_map, Int.natCast_add]); omega)) (h2 := by ((try simp only [byD_len, List.length_append, List.length_nil, List.length_cons, List.length_map, Int.natCast_add]); omega)) | refine x_appN ?_ (by first | exact one_wide | exact byD_wide _) (h1 := by unfold maxLen; ((try simp only [byD_len, List.length_append, List.length_nil, List.length_cons, List.length_map, Int.natCast_add]); omega)) (h2 := by ((try simp only [byD_len, List.length_append, List.length_nil, List.length_cons, List.length_map, Int.natCast_add]); omega))
  case' n3 =>
   refine x_len ?_
   refine x_len ?_
   refine x_add ?_ (h := IntWalk.i64_in _ (by (try simp only [byD_len, List.length_append, List.length_nil, List.length_cons, List.length_map, Int.natCast_add]); omega))
   refine x_make ?_ (h1 := by ((try simp only [byD_len, List.length_append, List.length_nil, List.length_cons, List.length_map, Int.natCast_add]); omega)) (h2 := by unfold maxLen; ((try simp only [byD_len, List.length_append, List.length_nil, List.length_cons, List.length_map, Int.natCast_add]); omega))
   first | refine x_app ?_ (by first | exact one_wide | exact byD_wide _) (hz := by first | exact byD_app _ _ | exact rfl | rfl) (h1 := by unfold maxLen; ((try simp only [byD_len, List.length_append, List.length_nil, List.length_cons, List.length_map, Int.natCast_add]); omega)) (h2 := by ((try simp only [byD_len, List.length_append, List.length_nil, List.length_cons, List.length_map, Int.natCast_add]); omega)) | refine x_appN ?_ (by first | exact one_wide | exact byD_wide _) (h1 := by unfold maxLen; ((try simp only [byD_len, List.length_append, List.length_nil, List.length_cons, List.length_map, Int.natCast_add]); omega)) (h2 := by ((try simp only [byD_len, List.length_append, List.length_nil, List.length_cons, List.length_map, Int.natCast_add]); omega))
   first | refine x_app ?_ (by first | exact one_wide | exact byD_wide _) (hz := by first | exact byD_app _ _ | exact rfl | rfl) (h1 := by unfold maxLen; ((try simp only [byD_len, List.length_append, List.length_nil, List.length_cons, List.length_map, Int.natCast_add]); omega)) (h2 := by ((try simp only [byD_len, List.length_append, List.length_nil, List.length_cons, List.length_map, Int.natCast_add]); omega)) | refine x_appN ?_ (by first | exact one_wide | exact byD_wide _) (h1 := by unfold maxLen; ((try simp only [byD_len, List.length_append, List.length_nil, List.length_cons, List.length_map, Int.natCast_add]); omega)) (h2 := by ((try simp only [byD_len, List.length_append, List.length_nil, List.length_cons, List.length_map, Int.natCast_add]); omega))
 all_goals (refine x_ret ?_; simp only [fitsL, fits, C.asD, and_true] <;> (refine own_fit ?_; unfold lensP; first | (rw [if_pos (by omega)]; simp [byD]; done) | (rw [if_neg (by omega)]; simp [byD]; done)))
end Go.Vm
end
section
namespace Go.Vm
open Go.RowKit Go.Proofs
set_option linter.unusedVariables false
set_option linter.unusedSimpArgs false
set_option maxRecDepth 10000

set_option maxHeartbeats 1000000 in
theorem ref4Turn_any (n : Int) (hn : inI64 n) : Contract Tryz.prog 136 [.sc (.int .i64 (n))] [.d (.sc (.int .u64 ((turnN n : Nat) : Int)))] := by
 refine T.fn [] Tryz.func136 ?_
 refine br (fun hc1 => ?y1) (fun hc1 => ?n1)
 case' y1 =>
  refine x_conv (pr_cv Tryz.underlying2 Tryz.underlying165 (wu64 n)) rfl ?_
  refine x_bin (pr_mul (show IntKind.u64.wrap (2 * ((u64 n : Nat) : Int)) = ((2 * u64 n : Nat) : Int) from wu64n (u := 2 * u64 n) (by unfold u64; omega))) rfl ?_
 case' n1 =>
  refine x_add (c := n + 1) ?_ (h := wi64i (by omega))
  refine x_un (un_neg (by omega)) rfl ?_
  refine x_conv (pr_cv Tryz.underlying2 Tryz.underlying165 (wu64 _)) rfl ?_
  refine x_bin (pr_mul (show IntKind.u64.wrap (2 * ((u64 (-(n + 1)) : Nat) : Int)) = ((2 * u64 (-(n + 1)) : Nat) : Int) from wu64n (u := 2 * u64 (-(n + 1))) (by unfold u64; omega))) rfl ?_
  refine x_bin (pr_add (show IntKind.u64.wrap (((2 * u64 (-(n + 1)) : Nat) : Int) + 1) = ((2 * u64 (-(n + 1)) + 1 : Nat) : Int) from wu64n (u := 2 * u64 (-(n + 1)) + 1) (by unfold u64; omega))) rfl ?_
 all_goals (refine x_ret ?_; simp only [fitsL, fits, C.asD, and_true] <;> (first | (rw [show turnN n = 2 * u64 n by unfold turnN u64; rw [if_neg (by omega)]; omega]; done) | (rw [show turnN n = 2 * u64 (-(n + 1)) + 1 by unfold turnN u64; rw [if_pos (by omega)]; omega]; done)))

set_option maxHeartbeats 1000000 in
theorem ref4Back_any (u : Nat) (hu : u < 18446744073709551616) : Contract Tryz.prog 138 [.sc (.int .u64 ((u : Nat) : Int))] [.d (.sc (.int .i64 (backN u)))] := by
 refine T.fn [] Tryz.func138 ?_
 refine x_bin (pr_rem (by decide)) rfl ?_
 refine br (fun hc1 => ?y1) (fun hc1 => ?n1)
 case' y1 =>
  have h2 : u % 2 = 0 := by have h := hc1; rw [show ((u : Nat) : Int).tmod 2 = ((u % 2 : Nat) : Int) from rfl] at h; omega
  refine x_bin (pr_quo (by decide) (show IntKind.u64.wrap (((u : Nat) : Int).tdiv 2) = ((u / 2 : Nat) : Int) from wu64n (u := u / 2) (by omega))) rfl ?_
  refine x_conv (pr_cv Tryz.underlying165 Tryz.underlying2 (wi64s (by omega))) rfl ?_
 case' n1 =>
  have h2 : u % 2 = 1 := by have h := hc1; rw [show ((u : Nat) : Int).tmod 2 = ((u % 2 : Nat) : Int) from rfl] at h; omega
  refine x_bin (pr_quo (by decide) (show IntKind.u64.wrap (((u : Nat) : Int).tdiv 2) = ((u / 2 : Nat) : Int) from wu64n (u := u / 2) (by omega))) rfl ?_
  refine x_conv (pr_cv Tryz.underlying165 Tryz.underlying2 (wi64s (by omega))) rfl ?_
  refine x_un (un_neg (by omega)) rfl ?_
  refine x_sub (c := -((u / 2 : Nat) : Int) - 1) ?_ (h := wi64i (by omega))
 all_goals (refine x_ret ?_; simp only [fitsL, fits, C.asD, and_true] <;> (first | rw [back_odd (by omega)] | rw [back_even (by omega)]))

set_option maxHeartbeats 1000000 in
theorem ref4Put_any (f n : Int) (hn : inI64 n) : Contract Tryz.prog 99 [.sc (.int .i64 (f)), .sc (.int .i64 (n))] [.own 0 5 (byD (putN f n))] := by
 refine T.fn [] Tryz.func99 ?_
 have hpl := putN_len f hn
 refine br (fun hc1 => ?y1) (fun hc1 => ?n1)
 case' y1 =>
  refine x_conv (pr_cv Tryz.underlying2 Tryz.underlying165 (wu64 n)) rfl ?_
  refine xloopR (fb := []) T.ok (Nat.le_of_ble_eq_true rfl) [0, 1] (fun (s : Nat × Nat × List UInt8) => [(7, .c (.d (.sc (.int .i64 ((s.1 : Nat) : Int))))), (6, .c (.d (.sc (.int .u64 ((s.2.1 : Nat) : Int))))), (5, .c (.own 9 5 (byD s.2.2)))]) (fun s => s.1 ≤ 8 ∧ s.2.2 ++ leN (8 - s.1) s.2.1 = leN 8 (u64 n) ∧ s.2.1 < 18446744073709551616) (fun s => 8 - s.1) (0, u64 n, []) ⟨by (try dsimp only); omega, rfl, u64_lt n⟩ (x_ent (by first | rfl | (simp only [Tr.get]; simp; done)) (x_ent (by first | rfl | (simp only [Tr.get]; simp; done)) (x_ent (by first | rfl | (simp only [Tr.get]; simp; done)) trivial))) ?_
  rintro s ⟨hk, hi, hu⟩
  have hsl : s.2.2.length ≤ 8 := by have := congrArg List.length hi; rw [List.length_append, leN_len, leN_len] at this; omega
  refine br (fun hc2 => ?y2) (fun hc2 => ?n2)
  case' y2 =>
   refine x_bin (r := .int .u64 ((s.2.1 % 256 : Nat) : Int)) (pr_rem (by decide)) rfl ?_
   refine x_conv (pr_cv Tryz.underlying165 Tryz.underlying5 (wu8n (by omega))) rfl ?_
   first | refine x_app ?_ (by first | exact one_wide | exact byD_wide _) (hz := by first | exact byD_snocN (by omega) | exact byD_snoc0 (by omega) | exact byD_app _ _ | exact byD_sl (by omega) | exact rfl | rfl) (h1 := by unfold maxLen; ((try simp only [byD_len, List.length_append, List.length_nil, List.length_cons, List.length_map, Int.natCast_add]); omega)) (h2 := by ((try simp only [byD_len, List.length_append, List.length_nil, List.length_cons, List.length_map, Int.natCast_add]); omega)) | refine x_appN ?_ (by first | exact one_wide | exact byD_wide _) (h1 := by unfold maxLen; ((try simp only [byD_len, List.length_append, List.length_nil, List.length_cons, List.length_map, Int.natCast_add]); omega)) (h2 := by ((try simp only [byD_len, List.length_append, List.length_nil, List.length_cons, List.length_map, Int.natCast_add]); omega))
   refine x_bin (pr_quo (by decide) (show IntKind.u64.wrap (((s.2.1 : Nat) : Int).tdiv 256) = ((s.2.1 / 256 : Nat) : Int) from wu64n (u := s.2.1 / 256) (by omega))) rfl ?_
   first | refine x_inc ?_ (h := by ((try simp only [byD_len, List.length_append, List.length_nil, List.length_cons, List.length_map, Int.natCast_add]); omega)) | refine x_add ?_ (h := by first | exact IntWalk.i64_in _ (by ((try simp only [byD_len, List.length_append, List.length_nil, List.length_cons, List.length_map, Int.natCast_add]); omega)) | rfl) | refine x_bin rfl rfl ?_
   refine x_rnd (s.1 + 1, s.2.1 / 256, s.2.2 ++ [UInt8.ofNat (s.2.1 % 256)]) ⟨by (try dsimp only); omega, le_next (by omega) hi, by (try dsimp only); omega⟩ (by (try dsimp only); omega) rfl (x_ent (by first | rfl | (simp only [Tr.get]; simp; done)) (x_ent (by first | rfl | (simp only [Tr.get]; simp; done)) (x_ent (by first | rfl | (simp only [Tr.get]; simp; done)) trivial))) rfl
  case' n2 =>
   have h8 : s.1 = 8 := by omega
   have hfi : s.2.2 = putN f n := by rw [putN_1 (by assumption), ← hi, h8]; simp [leN]
   refine br (fun hc3 => ?y3) (fun hc3 => ?n3)
   case' y3 =>
    exfalso; omega
 case' n1 =>
  refine br (fun hc4 => ?y4) (fun hc4 => ?n4)
  case' y4 =>
   refine x_call T.en_136 (ref4Turn_any _ hn) ?_
   refine xloopR (fb := []) T.ok (Nat.le_of_ble_eq_true rfl) [] (fun (s : Nat × List UInt8) => [(8, .c (.d (.sc (.int .u64 ((s.1 : Nat) : Int))))), (5, .c (.own 9 5 (byD s.2)))]) (fun s => s.2 ++ vary s.1 = vary (turnN n) ∧ s.1 < 18446744073709551616) (fun s => s.1) (turnN n, []) ⟨rfl, turn_lt hn⟩ (x_ent (by first | rfl | (simp only [Tr.get]; simp; done)) (x_ent (by first | rfl | (simp only [Tr.get]; simp; done)) trivial)) ?_
   rintro s ⟨hi, hu⟩
   have hvl := vary_len (turnN n) 0 (by decide) (turn_lt hn)
   have hsl : s.2.length ≤ 10 := by have := congrArg List.length hi; rw [List.length_append] at this; omega
   refine br (fun hc5 => ?y5) (fun hc5 => ?n5)
   case' y5 =>
    refine x_bin (r := .int .u64 ((s.1 % 128 : Nat) : Int)) (pr_rem (by decide)) rfl ?_
    refine x_bin (pr_add (show IntKind.u64.wrap (128 + ((s.1 % 128 : Nat) : Int)) = ((s.1 % 128 + 128 : Nat) : Int) by rw [show (128 : Int) + ((s.1 % 128 : Nat) : Int) = ((s.1 % 128 + 128 : Nat) : Int) by omega]; exact wu64n (by omega))) rfl ?_
    refine x_conv (pr_cv Tryz.underlying165 Tryz.underlying5 (wu8n (by omega))) rfl ?_
    first | refine x_app ?_ (by first | exact one_wide | exact byD_wide _) (hz := by first | exact byD_snocN (by omega) | exact byD_snoc0 (by omega) | exact byD_app _ _ | exact byD_sl (by omega) | exact rfl | rfl) (h1 := by unfold maxLen; ((try simp only [byD_len, List.length_append, List.length_nil, List.length_cons, List.length_map, Int.natCast_add]); omega)) (h2 := by ((try simp only [byD_len, List.length_append, List.length_nil, List.length_cons, List.length_map, Int.natCast_add]); omega)) | refine x_appN ?_ (by first | exact one_wide | exact byD_wide _) (h1 := by unfold maxLen; ((try simp only [byD_len, List.length_append, List.length_nil, List.length_cons, List.length_map, Int.natCast_add]); omega)) (h2 := by ((try simp only [byD_len, List.length_append, List.length_nil, List.length_cons, List.length_map, Int.natCast_add]); omega))
    refine x_bin (pr_quo (by decide) (show IntKind.u64.wrap (((s.1 : Nat) : Int).tdiv 128) = ((s.1 / 128 : Nat) : Int) from wu64n (u := s.1 / 128) (by omega))) rfl ?_
    refine x_rnd (s.1 / 128, s.2 ++ [UInt8.ofNat (s.1 % 128 + 128)]) ⟨vary_next (by omega) hi, by (try dsimp only); omega⟩ (by (try dsimp only); omega) rfl (x_ent (by first | rfl | (simp only [Tr.get]; simp; done)) (x_ent (by first | rfl | (simp only [Tr.get]; simp; done)) trivial)) rfl
   case' n5 =>
    have hfi : s.2 ++ [UInt8.ofNat (s.1 % 256)] = putN f n := by rw [putN_2 (by assumption) (by assumption)]; exact vary_last (by omega) hi
    refine x_conv (pr_cv Tryz.underlying165 Tryz.underlying5 (wu8m _)) rfl ?_
    first | refine x_app ?_ (by first | exact one_wide | exact byD_wide _) (hz := by first | exact byD_snocN (by omega) | exact byD_snoc0 (by omega) | exact byD_app _ _ | exact byD_sl (by omega) | exact rfl | rfl) (h1 := by unfold maxLen; ((try simp only [byD_len, List.length_append, List.length_nil, List.length_cons, List.length_map, Int.natCast_add]); omega)) (h2 := by ((try simp only [byD_len, List.length_append, List.length_nil, List.length_cons, List.length_map, Int.natCast_add]); omega)) | refine x_appN ?_ (by first | exact one_wide | exact byD_wide _) (h1 := by unfold maxLen; ((try simp only [byD_len, List.length_append, List.length_nil, List.length_cons, List.length_map, Int.natCast_add]); omega)) (h2 := by ((try simp only [byD_len, List.length_append, List.length_nil, List.length_cons, List.length_map, Int.natCast_add]); omega))
 all_goals (refine x_ret ?_; simp only [fitsL, fits, C.asD, and_true] <;> (refine own_fit ?_; first | (rw [hfi]; done) | (rw [putN_0 (by assumption) (by assumption)]; rfl)))

set_option maxHeartbeats 1000000 in
theorem ref4Get_any (b : List UInt8) (a : Nat) (f : Int) (hb : b.length ≤ 16000000) (ha : a ≤ b.length) : Contract Tryz.prog 105 [.row (byD b), .sc (.int .i64 ((a : Nat))), .sc (.int .i64 (f))] [.d (.sc (.int .i64 (gN (getN b a f)))), .d (.sc (.int .i64 (gE (getN b a f)))), .d (.sc (.int .i64 (gC (if fmtF f then 8 else 2) (getN b a f))))] := by
 refine T.fn [108, 116] Tryz.func105 ?_
 refine br (fun hg1 => ?y1) (fun hg1 => ?n1)
 case' y1 =>
  refine br (fun hg2 => ?y2) (fun hg2 => ?n2)
  case' y2 =>
   refine brT ?_
   refine brT ?_
  case' n2 =>
   refine br (fun hg5 => ?y5) (fun hg5 => ?n5)
   case' y5 =>
    refine brT ?_
   case' n5 =>
    refine x_len ?_
    refine br (fun hc7 => ?y7) (fun hc7 => ?n7)
    case' n7 =>
     refine br (fun hc8 => ?y8) (fun hc8 => ?n8)
     case' y8 =>
      exfalso; omega
     case' n8 =>
      obtain rfl : f = 2 := by omega
      refine xloopR (fb := [108, 116]) T.ok (Nat.le_of_ble_eq_true rfl) [0, 1, 9] (fun (k : Nat) => [(10, .c (.d (.sc (.int .i64 (k : Nat)))))]) (fun k => k ≤ 10 ∧ ∀ j, j < k → ∃ c, (b.drop a)[j]? = some c ∧ 128 ≤ c.toNat) (fun k => 10 - k) 0 ⟨by decide, fun j hj => absurd hj (Nat.not_lt_zero _)⟩ (x_ent (by first | rfl | (simp only [Tr.get]; simp; done)) trivial) ?_
      rintro k ⟨hk, hlead⟩
      first | refine x_inc ?_ (h := by ((try simp only [byD_len, List.length_append, List.length_nil, List.length_cons, List.length_map, Int.natCast_add]); omega)) | refine x_add ?_ (h := by first | exact IntWalk.i64_in _ (by ((try simp only [byD_len, List.length_append, List.length_nil, List.length_cons, List.length_map, Int.natCast_add]); omega)) | rfl) | refine x_bin rfl rfl ?_
      refine x_len ?_
      refine br (fun hg9 => ?y9) (fun hg9 => ?n9)
      case' y9 =>
       obtain ⟨c, hp⟩ : ∃ c, b[a + k]? = some c := ⟨_, List.getElem?_eq_getElem (by omega)⟩
       first | refine x_inc ?_ (h := by ((try simp only [byD_len, List.length_append, List.length_nil, List.length_cons, List.length_map, Int.natCast_add]); omega)) | refine x_add ?_ (h := by first | exact IntWalk.i64_in _ (by ((try simp only [byD_len, List.length_append, List.length_nil, List.length_cons, List.length_map, Int.natCast_add]); omega)) | rfl) | refine x_bin rfl rfl ?_
       first | refine x_ix (by first | exact byD_at hp | exact byD_ix hp (by omega) | exact byD_ix hpd (by omega)) ?_ | refine x_ixI (by first | exact byD_at hp | exact byD_ix hp (by omega) | exact byD_ix hpd (by omega)) ?_
       refine br (fun hg10 => ?y10) (fun hg10 => ?n10)
       case' y10 =>
        refine br (fun hc11 => ?y11) (fun hc11 => ?n11)
        case' y11 =>
         first | refine x_inc ?_ (h := by ((try simp only [byD_len, List.length_append, List.length_nil, List.length_cons, List.length_map, Int.natCast_add]); omega)) | refine x_add ?_ (h := by first | exact IntWalk.i64_in _ (by ((try simp only [byD_len, List.length_append, List.length_nil, List.length_cons, List.length_map, Int.natCast_add]); omega)) | rfl) | refine x_bin rfl rfl ?_
         refine x_rnd (k + 1) ⟨by omega, lead_next hlead (dropA_at hp) (by omega)⟩ (by (try dsimp only); omega) rfl (x_ent (by first | rfl | (simp only [Tr.get]; simp; done)) trivial) rfl
        case' n11 =>
         first | refine x_inc ?_ (h := by ((try simp only [byD_len, List.length_append, List.length_nil, List.length_cons, List.length_map, Int.natCast_add]); omega)) | refine x_add ?_ (h := by first | exact IntWalk.i64_in _ (by ((try simp only [byD_len, List.length_append, List.length_nil, List.length_cons, List.length_map, Int.natCast_add]); omega)) | rfl) | refine x_bin rfl rfl ?_
         refine x_len ?_
         refine br (fun hg12 => ?y12) (fun hg12 => ?n12)
         case' y12 =>
          exfalso; omega
         case' n12 =>
          refine br (fun hc13 => ?y13) (fun hc13 => ?n13)
          case' y13 =>
           have hg : getN b a 2 = none := getN_refn hlead (by omega)
          case' n13 =>
           exfalso; omega
       case' n10 =>
        refine brF ?_
        first | refine x_inc ?_ (h := by ((try simp only [byD_len, List.length_append, List.length_nil, List.length_cons, List.length_map, Int.natCast_add]); omega)) | refine x_add ?_ (h := by first | exact IntWalk.i64_in _ (by ((try simp only [byD_len, List.length_append, List.length_nil, List.length_cons, List.length_map, Int.natCast_add]); omega)) | rfl) | refine x_bin rfl rfl ?_
        refine x_len ?_
        refine br (fun hg15 => ?y15) (fun hg15 => ?n15)
        case' y15 =>
         exfalso; omega
        case' n15 =>
         refine br (fun hc16 => ?y16) (fun hc16 => ?n16)
         case' y16 =>
          have hg : getN b a 2 = none := getN_refn hlead (by omega)
         case' n16 =>
          refine xloopR (fb := [108, 116]) T.ok (Nat.le_of_ble_eq_true rfl) [0, 1, 10] (fun (s : Nat × Nat) => [(12, .c (.d (.sc (.int .i64 (((k : Nat) : Int) - ((s.1 : Nat) : Int)))))), (9, .c (.d (.sc (.int .u64 ((s.2 : Nat) : Int)))))]) (fun s => s.1 ≤ k + 1 ∧ s.2 = valV (((b.drop a).take (k + 1)).drop (k + 1 - s.1)) % 18446744073709551616) (fun s => k + 1 - s.1) (0, 0) ⟨by (try dsimp only); omega, by simp [valV]⟩ (x_ent (by first | rfl | (simp only [Tr.get]; simp; done)) (x_ent (by first | rfl | (simp only [Tr.get]; simp; done)) trivial)) ?_
          rintro s ⟨hj, hi⟩
          have hu : s.2 < 18446744073709551616 := by rw [hi]; exact Nat.mod_lt _ (by decide)
          refine br (fun hc17 => ?y17) (fun hc17 => ?n17)
          case' y17 =>
           obtain ⟨d, hpd⟩ : ∃ d, b[a + (k - s.1)]? = some d := ⟨_, List.getElem?_eq_getElem (by omega)⟩
           have hdl := d.toNat_lt
           refine x_bin (pr_mul (show IntKind.u64.wrap (((s.2 : Nat) : Int) * 128) = ((s.2 * 128 % 18446744073709551616 : Nat) : Int) from wu64m (s.2 * 128))) rfl ?_
           first | refine x_inc ?_ (h := by ((try simp only [byD_len, List.length_append, List.length_nil, List.length_cons, List.length_map, Int.natCast_add]); omega)) | refine x_add ?_ (h := by first | exact IntWalk.i64_in _ (by ((try simp only [byD_len, List.length_append, List.length_nil, List.length_cons, List.length_map, Int.natCast_add]); omega)) | rfl) | refine x_bin rfl rfl ?_
           first | refine x_ix (by first | exact byD_at hp | exact byD_ix hp (by omega) | exact byD_ix hpd (by omega)) ?_ | refine x_ixI (by first | exact byD_at hp | exact byD_ix hp (by omega) | exact byD_ix hpd (by omega)) ?_
           refine x_bin (r := .int .u8 ((d.toNat % 128 : Nat) : Int)) (pr_rem (by decide)) rfl ?_
           refine x_conv (pr_cv Tryz.underlying5 Tryz.underlying165 (wu64n (by omega))) rfl ?_
           refine x_bin (pr_add (show IntKind.u64.wrap (((s.2 * 128 % 18446744073709551616 : Nat) : Int) + ((d.toNat % 128 : Nat) : Int)) = (((s.2 * 128 % 18446744073709551616 + d.toNat % 128) % 18446744073709551616 : Nat) : Int) from wu64m (s.2 * 128 % 18446744073709551616 + d.toNat % 128))) rfl ?_
           first | refine x_sub ?_ (h := by first | exact IntWalk.i64_in _ (by ((try simp only [byD_len, List.length_append, List.length_nil, List.length_cons, List.length_map, Int.natCast_add]); omega)) | rfl) | refine x_bin rfl rfl ?_
           refine x_rnd (s.1 + 1, (s.2 * 128 % 18446744073709551616 + d.toNat % 128) % 18446744073709551616) ⟨by (try dsimp only); omega, by (try dsimp only); rw [hi]; exact valV_cons_drop (by omega) (dropA_at hpd)⟩ (by (try dsimp only); omega) rfl (x_ent (by simp only [Tr.get]; first | rfl | (simp; done) | (simp; omega)) (x_ent (by first | rfl | (simp only [Tr.get]; simp; done)) trivial)) rfl
          case' n17 =>
           have hjk : s.1 = k + 1 := by omega
           rw [hjk, Nat.sub_self, List.drop_zero] at hi
           have hg := getN_ref hlead (by omega) hp (by omega) hi
           refine x_call T.en_138 (ref4Back_any _ hu) ?_
           refine x_call T.en_99 (ref4Put_any 2 _ (back_in hu)) ?_
           refine And.intro ⟨T.mixed, by decide +kernel⟩ ?_
           refine q_tostr Tryz.underlying34 Tryz.underlying5 Tryz.underlying9 (l := putN 2 (backN s.2)) ?_
           first | refine x_inc ?_ (h := by ((try simp only [byD_len, List.length_append, List.length_nil, List.length_cons, List.length_map, Int.natCast_add]); omega)) | refine x_add ?_ (h := by first | exact IntWalk.i64_in _ (by ((try simp only [byD_len, List.length_append, List.length_nil, List.length_cons, List.length_map, Int.natCast_add]); omega)) | rfl) | refine x_bin rfl rfl ?_
           first | refine x_inc ?_ (h := by ((try simp only [byD_len, List.length_append, List.length_nil, List.length_cons, List.length_map, Int.natCast_add]); omega)) | refine x_add ?_ (h := by first | exact IntWalk.i64_in _ (by ((try simp only [byD_len, List.length_append, List.length_nil, List.length_cons, List.length_map, Int.natCast_add]); omega)) | rfl) | refine x_bin rfl rfl ?_
           first | refine x_bnd ?_ | refine x_bndI ?_
           first | refine x_bnd ?_ | refine x_bndI ?_
           refine x_row ?_ (by first | exact one_wide | exact byD_wide _) (h1 := by ((try simp only [byD_len, List.length_append, List.length_nil, List.length_cons, List.length_map, Int.natCast_add]); omega)) (h2 := by ((try simp only [byD_len, List.length_append, List.length_nil, List.length_cons, List.length_map, Int.natCast_add]); omega)) (hy := by first | exact byD_sl (n := k + 1) (by omega) | exact rfl | rfl)
           refine q_tostr Tryz.underlying34 Tryz.underlying5 Tryz.underlying9 (l := (b.drop a).take (k + 1)) ?_
           refine br (fun hc18 => ?y18) (fun hc18 => ?n18)
           case' y18 =>
            rw [if_neg hc18] at hg
           case' n18 =>
            rw [if_pos hc18] at hg
            first | refine x_inc ?_ (h := by ((try simp only [byD_len, List.length_append, List.length_nil, List.length_cons, List.length_map, Int.natCast_add]); omega)) | refine x_add ?_ (h := by first | exact IntWalk.i64_in _ (by ((try simp only [byD_len, List.length_append, List.length_nil, List.length_cons, List.length_map, Int.natCast_add]); omega)) | rfl) | refine x_bin rfl rfl ?_
            first | refine x_inc ?_ (h := by ((try simp only [byD_len, List.length_append, List.length_nil, List.length_cons, List.length_map, Int.natCast_add]); omega)) | refine x_add ?_ (h := by first | exact IntWalk.i64_in _ (by ((try simp only [byD_len, List.length_append, List.length_nil, List.length_cons, List.length_map, Int.natCast_add]); omega)) | rfl) | refine x_bin rfl rfl ?_
      case' n9 =>
       refine brF ?_
       refine brF ?_
       first | refine x_inc ?_ (h := by ((try simp only [byD_len, List.length_append, List.length_nil, List.length_cons, List.length_map, Int.natCast_add]); omega)) | refine x_add ?_ (h := by first | exact IntWalk.i64_in _ (by ((try simp only [byD_len, List.length_append, List.length_nil, List.length_cons, List.length_map, Int.natCast_add]); omega)) | rfl) | refine x_bin rfl rfl ?_
       refine x_len ?_
       refine br (fun hg21 => ?y21) (fun hg21 => ?n21)
       case' y21 =>
        refine brT ?_
        have hg : getN b a 2 = none := getN_refn hlead (by omega)
       case' n21 =>
        exfalso; omega
 case' n1 =>
  refine brF ?_
  refine br (fun hg24 => ?y24) (fun hg24 => ?n24)
  case' y24 =>
   refine brT ?_
  case' n24 =>
   refine x_len ?_
   refine br (fun hc26 => ?y26) (fun hc26 => ?n26)
   case' n26 =>
    refine br (fun hc27 => ?y27) (fun hc27 => ?n27)
    case' y27 =>
     obtain rfl : f = 1 := hc27
     refine x_len ?_
     first | refine x_sub ?_ (h := by first | exact IntWalk.i64_in _ (by ((try simp only [byD_len, List.length_append, List.length_nil, List.length_cons, List.length_map, Int.natCast_add]); omega)) | rfl) | refine x_bin rfl rfl ?_
     refine br (fun hc28 => ?y28) (fun hc28 => ?n28)
     case' y28 =>
      have hg := getN_1n (b := b) (a := a) (by omega)
     case' n28 =>
      have hg := getN_1 (b := b) (a := a) (by omega)
      refine xloopR (fb := [108, 116]) T.ok (Nat.le_of_ble_eq_true rfl) [0, 1] (fun (s : Nat × Nat) => [(11, .c (.d (.sc (.int .i64 (7 - ((s.1 : Nat) : Int)))))), (9, .c (.d (.sc (.int .u64 ((s.2 : Nat) : Int)))))]) (fun s => s.1 ≤ 8 ∧ s.2 = leV (((b.drop a).take 8).drop (8 - s.1))) (fun s => 8 - s.1) (0, 0) ⟨by (try dsimp only); omega, by simp [leV]⟩ (x_ent (by first | rfl | (simp only [Tr.get]; simp; done)) (x_ent (by first | rfl | (simp only [Tr.get]; simp; done)) trivial)) ?_
      rintro s ⟨hk, hi⟩
      refine br (fun hc29 => ?y29) (fun hc29 => ?n29)
      case' y29 =>
       obtain ⟨c, hp⟩ : ∃ c, b[a + (7 - s.1)]? = some c := ⟨_, List.getElem?_eq_getElem (by omega)⟩
       have hlt := leV_drop_lt (b := b) (a := a) (j := s.1) (by omega) (by omega)
       rw [← hi] at hlt
       have hcl := c.toNat_lt
       refine x_bin (pr_mul (show IntKind.u64.wrap (((s.2 : Nat) : Int) * 256) = ((s.2 * 256 : Nat) : Int) from wu64n (u := s.2 * 256) (by omega))) rfl ?_
       first | refine x_inc ?_ (h := by ((try simp only [byD_len, List.length_append, List.length_nil, List.length_cons, List.length_map, Int.natCast_add]); omega)) | refine x_add ?_ (h := by first | exact IntWalk.i64_in _ (by ((try simp only [byD_len, List.length_append, List.length_nil, List.length_cons, List.length_map, Int.natCast_add]); omega)) | rfl) | refine x_bin rfl rfl ?_
       first | refine x_ix (by first | exact byD_at hp | exact byD_ix hp (by omega) | exact byD_ix hpd (by omega)) ?_ | refine x_ixI (by first | exact byD_at hp | exact byD_ix hp (by omega) | exact byD_ix hpd (by omega)) ?_
       refine x_conv (pr_cv Tryz.underlying5 Tryz.underlying165 (wu64n (by omega))) rfl ?_
       refine x_bin (pr_add (show IntKind.u64.wrap (((s.2 * 256 : Nat) : Int) + ((c.toNat : Nat) : Int)) = ((s.2 * 256 + c.toNat : Nat) : Int) from wu64n (u := s.2 * 256 + c.toNat) (by omega))) rfl ?_
       first | refine x_sub ?_ (h := by first | exact IntWalk.i64_in _ (by ((try simp only [byD_len, List.length_append, List.length_nil, List.length_cons, List.length_map, Int.natCast_add]); omega)) | rfl) | refine x_bin rfl rfl ?_
       refine x_rnd (s.1 + 1, s.2 * 256 + c.toNat) ⟨by (try dsimp only); omega, by (try dsimp only); rw [hi]; exact leV_cons_drop (by omega) hp⟩ (by (try dsimp only); omega) rfl (x_ent (by simp only [Tr.get]; first | rfl | (simp; done) | (simp; omega)) (x_ent (by first | rfl | (simp only [Tr.get]; simp; done)) trivial)) rfl
      case' n29 =>
       have h8 : s.1 = 8 := by omega
       rw [h8, Nat.sub_self, List.drop_zero] at hi
       have hl64 : s.2 < 18446744073709551616 := by rw [hi]; exact leV8_lt _
       rw [← hi] at hg
       refine x_conv (pr_cv Tryz.underlying165 Tryz.underlying2 (wi64 hl64)) rfl ?_
       first | refine x_inc ?_ (h := by ((try simp only [byD_len, List.length_append, List.length_nil, List.length_cons, List.length_map, Int.natCast_add]); omega)) | refine x_add ?_ (h := by first | exact IntWalk.i64_in _ (by ((try simp only [byD_len, List.length_append, List.length_nil, List.length_cons, List.length_map, Int.natCast_add]); omega)) | rfl) | refine x_bin rfl rfl ?_
    case' n27 =>
     exfalso; omega
 all_goals (refine x_ret ?_; simp only [fitsL, fits, C.asD, and_true] <;> (first | (rw [hg]; first | (simp [gN, gE, gC]; done) | (simp [gN, gE, gC]; omega)) | (rw [getN_0 (by show ¬ (f = 1 ∨ f = 2); omega), if_neg (by show ¬ (f = 1 ∨ f = 2); omega)]; simp [gN, gE, gC]; done) | (exfalso; omega)))
end Go.Vm
end
section
namespace Go.Vm
open Go.RowKit Go.Proofs
set_option linter.unusedVariables false
set_option linter.unusedSimpArgs false
set_option maxRecDepth 10000

set_option maxHeartbeats 1000000 in
theorem r8text_any (f : Int) (x : ByteArray) (hf : fmtF f) (hx : x.size ≤ 1000000) : Contract Tryz.prog 100 [.sc (.int .i64 (f)), .sc (.string x)] [.own 0 5 (byD (textP f x))] := by
 refine T.fn [10] Tryz.func100 ?_
 have hpl := putN_len f (n := (x.size : Nat)) (by omega)
 have hxl : x.data.toList.length = x.size := rfl
 refine x_len ?_
 refine x_call T.en_99 (ref4Put_any _ _ (by omega)) ?_
 refine x_tobytes Tryz.underlying34 Tryz.underlying5 Tryz.underlying9 (s := x) (by unfold maxLen; omega) ?_
 first | refine x_app ?_ (by first | exact one_wide | exact byD_wide _) (hz := by first | exact byD_app _ _ | exact rfl | rfl) (h1 := by unfold maxLen; ((try simp only [byD_len, List.length_append, List.length_nil, List.length_cons, List.length_map, Int.natCast_add]); omega)) (h2 := by ((try simp only [byD_len, List.length_append, List.length_nil, List.length_cons, List.length_map, Int.natCast_add]); omega)) | refine x_appN ?_ (by first | exact one_wide | exact byD_wide _) (h1 := by unfold maxLen; ((try simp only [byD_len, List.length_append, List.length_nil, List.length_cons, List.length_map, Int.natCast_add]); omega)) (h2 := by ((try simp only [byD_len, List.length_append, List.length_nil, List.length_cons, List.length_map, Int.natCast_add]); omega))
 all_goals (refine x_ret ?_; simp only [fitsL, fits, C.asD, and_true] <;> (exact own_fit (by rw [textP_right hf])))

set_option maxHeartbeats 1000000 in
theorem r8getText_any (b : List UInt8) (a : Nat) (f : Int) (most : Int) (hb : b.length ≤ 16000000) (ha : a ≤ b.length) : Contract Tryz.prog 106 [.row (byD b), .sc (.int .i64 ((a : Nat))), .sc (.int .i64 (f)), .sc (.int .i64 (most))] [.d (.sc (.string (tS (textO b a f most)))), .d (.sc (.int .i64 (tE (textO b a f most)))), .d (.sc (.bool ((textO b a f most).isSome)))] := by
 refine T.fn [47] Tryz.func106 ?_
 refine x_call T.en_105 (ref4Get_any b a f hb ha) ?_
 refine br (fun hg1 => ?y1) (fun hg1 => ?n1)
 case' y1 =>
  have hT := textO_miss (most := most) (gC_none hg1)
  refine brT ?_
  refine brT ?_
  refine brT ?_
 case' n1 =>
  obtain ⟨x, hg⟩ := gC_some (by split <;> decide) hg1
  have hx1 := gN_some hg
  have hx2 := gE_some hg
  have hx3 := getN_in (n := x.1) (e := x.2) hg
  refine br (fun hg5 => ?y5) (fun hg5 => ?n5)
  case' y5 =>
   refine brT ?_
   refine brT ?_
   have hT := textO_none (most := most) hg (by omega)
  case' n5 =>
   refine br (fun hg8 => ?y8) (fun hg8 => ?n8)
   case' y8 =>
    refine brT ?_
    have hT := textO_none (most := most) hg (by omega)
   case' n8 =>
    refine x_len ?_
    first | refine x_sub ?_ (h := by first | exact IntWalk.i64_in _ (by ((try simp only [byD_len, List.length_append, List.length_nil, List.length_cons, List.length_map, Int.natCast_add]); omega)) | rfl) | refine x_bin rfl rfl ?_
    refine br (fun hc10 => ?y10) (fun hc10 => ?n10)
    case' y10 =>
     have hT := textO_none (most := most) hg (by omega)
    case' n10 =>
     have hT := textO_some (most := most) hg (by omega)
     have hx4 : (gE (getN b a f)).toNat = x.2 := by omega
     have hx5 : gE (getN b a f) + gN (getN b a f) = ((x.2 + x.1.toNat : Nat) : Int) := by omega
     first | refine x_inc ?_ (h := by ((try simp only [byD_len, List.length_append, List.length_nil, List.length_cons, List.length_map, Int.natCast_add]); omega)) | refine x_add ?_ (h := by first | exact IntWalk.i64_in _ (by ((try simp only [byD_len, List.length_append, List.length_nil, List.length_cons, List.length_map, Int.natCast_add]); omega)) | rfl) | refine x_bin rfl rfl ?_
     first | refine x_bnd ?_ | refine x_bndI ?_
     first | refine x_bnd ?_ | refine x_bndI ?_
     refine x_row ?_ (by first | exact one_wide | exact byD_wide _) (h1 := by ((try simp only [byD_len, List.length_append, List.length_nil, List.length_cons, List.length_map, Int.natCast_add]); omega)) (h2 := by ((try simp only [byD_len, List.length_append, List.length_nil, List.length_cons, List.length_map, Int.natCast_add]); omega)) (hy := by first | exact byD_sl (n := x.1.toNat) (by omega) | exact rfl | rfl)
     refine x_tostr Tryz.underlying34 Tryz.underlying5 Tryz.underlying9 (l := (b.drop (gE (getN b a f)).toNat).take x.1.toNat) ?_
     first | refine x_inc ?_ (h := by ((try simp only [byD_len, List.length_append, List.length_nil, List.length_cons, List.length_map, Int.natCast_add]); omega)) | refine x_add ?_ (h := by first | exact IntWalk.i64_in _ (by ((try simp only [byD_len, List.length_append, List.length_nil, List.length_cons, List.length_map, Int.natCast_add]); omega)) | rfl) | refine x_bin rfl rfl ?_
 all_goals (refine x_ret ?_; simp only [fitsL, fits, C.asD, and_true] <;> (rw [hT]; first | exact ⟨rfl, rfl, rfl⟩ | (rw [hx4, hx5]; exact ⟨rfl, rfl, rfl⟩) | simp [tS, tE]))

set_option maxHeartbeats 1000000 in
theorem r8putR_any (f : Int) (r : RefD) (hf : fmtF f) (h0 : inI64 r.scope) (h1 : r.group.size ≤ 1000000) (h2 : r.name.size ≤ 1000000) : Contract Tryz.prog 55 [.sc (.int .i64 (f)), thD 5 0 noB false 0 0 r 0] [.own 0 5 (byD (refP f r))] := by
 refine T.fn [] Tryz.func55 ?_
 have hpl := putN_len f h0
 have hl1 := textP_len f h1
 have hl2 := textP_len f h2
 refine brF ?_
 refine brF ?_
 refine brF ?_
 refine brF ?_
 refine brF ?_
 refine brF ?_
 refine brT ?_
 refine x_call T.en_99 (ref4Put_any f r.scope h0) ?_
 refine x_call T.en_100 (r8text_any f r.group hf h1) ?_
 first | refine x_app ?_ (by first | exact one_wide | exact byD_wide _) (hz := by first | exact byD_app _ _ | exact rfl | rfl) (h1 := by unfold maxLen; ((try simp only [byD_len, List.length_append, List.length_nil, List.length_cons, List.length_map, Int.natCast_add]); omega)) (h2 := by ((try simp only [byD_len, List.length_append, List.length_nil, List.length_cons, List.length_map, Int.natCast_add]); omega)) | refine x_appN ?_ (by first | exact one_wide | exact byD_wide _) (h1 := by unfold maxLen; ((try simp only [byD_len, List.length_append, List.length_nil, List.length_cons, List.length_map, Int.natCast_add]); omega)) (h2 := by ((try simp only [byD_len, List.length_append, List.length_nil, List.length_cons, List.length_map, Int.natCast_add]); omega))
 refine x_call T.en_100 (r8text_any f r.name hf h2) ?_
 first | refine x_app ?_ (by first | exact one_wide | exact byD_wide _) (hz := by first | exact byD_app _ _ | exact rfl | rfl) (h1 := by unfold maxLen; ((try simp only [byD_len, List.length_append, List.length_nil, List.length_cons, List.length_map, Int.natCast_add]); omega)) (h2 := by ((try simp only [byD_len, List.length_append, List.length_nil, List.length_cons, List.length_map, Int.natCast_add]); omega)) | refine x_appN ?_ (by first | exact one_wide | exact byD_wide _) (h1 := by unfold maxLen; ((try simp only [byD_len, List.length_append, List.length_nil, List.length_cons, List.length_map, Int.natCast_add]); omega)) (h2 := by ((try simp only [byD_len, List.length_append, List.length_nil, List.length_cons, List.length_map, Int.natCast_add]); omega))
 all_goals (refine x_ret ?_; simp only [fitsL, fits, C.asD, and_true] <;> (exact own_fit (by unfold refP; rw [List.append_assoc])))

set_option maxHeartbeats 1000000 in
theorem r8get0_any (b : List UInt8) (a : Nat) (f : Int) (most : Int) (hb : b.length ≤ 16000000) (ha : a ≤ b.length) : Contract Tryz.prog 58 [.row (byD b), .sc (.int .i64 ((a : Nat))), .sc (.int .i64 (f)), thD 0 0 noB false 0 0 noRef most] [.d (thD 0 (gN (getN b a f)) noB false 0 0 noRef most), .d (.sc (.int .i64 (gE (getN b a f)))), .d (.sc (.bool ((getN b a f).isSome)))] := by
 refine T.fn [] Tryz.func58 ?_
 refine brT ?_
 refine brT ?_
 refine x_call T.en_105 (ref4Get_any b a f hb ha) ?_
 refine br (fun hg3 => ?y3) (fun hg3 => ?n3)
 case' y3 =>
  have hT := gC_none hg3
  refine brT ?_
 case' n3 =>
  obtain ⟨x, hT⟩ := gC_some (by split <;> decide) hg3
  refine brF ?_
  refine brF ?_
 all_goals (refine x_ret ?_; simp only [fitsL, fits, C.asD, and_true] <;> (rw [hT]; first | exact ⟨rfl, rfl, rfl⟩ | exact ⟨rfl, rfl, trivial⟩ | exact ⟨rfl, trivial, trivial⟩ | exact ⟨rfl, trivial, rfl⟩))

set_option maxHeartbeats 1000000 in
theorem r8get6_any (b : List UInt8) (a : Nat) (f : Int) (most : Int) (hb : b.length ≤ 16000000) (ha : a ≤ b.length) : Contract Tryz.prog 58 [.row (byD b), .sc (.int .i64 ((a : Nat))), .sc (.int .i64 (f)), thD 6 0 noB false 0 0 noRef most] [.d (thD 6 (gN (countO b a f most)) noB false 0 0 noRef most), .d (.sc (.int .i64 (gE (countO b a f most)))), .d (.sc (.bool ((countO b a f most).isSome)))] := by
 refine T.fn [] Tryz.func58 ?_
 refine brF ?_
 refine brT ?_
 refine x_call T.en_105 (ref4Get_any b a f hb ha) ?_
 refine br (fun hg3 => ?y3) (fun hg3 => ?n3)
 case' y3 =>
  have hT := countO_miss (most := most) (gC_none hg3)
  refine brT ?_
 case' n3 =>
  obtain ⟨x, hg⟩ := gC_some (by split <;> decide) hg3
  have hx1 := gN_some hg
  have hx2 := gE_some hg
  refine brT ?_
  refine br (fun hg6 => ?y6) (fun hg6 => ?n6)
  case' y6 =>
   refine brT ?_
   have hT := countO_none (most := most) hg (by omega)
  case' n6 =>
   refine br (fun hc8 => ?y8) (fun hc8 => ?n8)
   case' y8 =>
    have hT := countO_none (most := most) hg (by omega)
   case' n8 =>
    have hT := countO_some (most := most) hg (by omega)
 all_goals (refine x_ret ?_; simp only [fitsL, fits, C.asD, and_true] <;> (rw [hT]; first | exact ⟨rfl, rfl, rfl⟩ | (rw [hg]; exact ⟨rfl, rfl, rfl⟩)))

set_option maxHeartbeats 1000000 in
theorem r8get1_any (b : List UInt8) (a : Nat) (f : Int) (most : Int) (hb : b.length ≤ 16000000) (ha : a ≤ b.length) : Contract Tryz.prog 58 [.row (byD b), .sc (.int .i64 ((a : Nat))), .sc (.int .i64 (f)), thD 1 0 noB false 0 0 noRef most] [.d (thD 1 0 (tS (textO b a f most)) false 0 0 noRef most), .d (.sc (.int .i64 (tE (textO b a f most)))), .d (.sc (.bool ((textO b a f most).isSome)))] := by
 refine T.fn [] Tryz.func58 ?_
 refine brF ?_
 refine brF ?_
 refine brT ?_
 refine x_call T.en_106 (r8getText_any b a f most hb ha) ?_
 all_goals (refine x_ret ?_; simp only [fitsL, fits, C.asD, and_true] <;> (first | exact ⟨rfl, rfl, rfl⟩ | rfl))

set_option maxHeartbeats 1000000 in
theorem r8get5_any (b : List UInt8) (a : Nat) (f : Int) (hb : b.length ≤ 16000000) (ha : a ≤ b.length) : Contract Tryz.prog 58 [.row (byD b), .sc (.int .i64 ((a : Nat))), .sc (.int .i64 (f)), thD 5 0 noB false 0 0 noRef 0] [.d (thD 5 0 noB false 0 0 (oR (refO b a f)) 0), .d (.sc (.int .i64 (tE (refO b a f)))), .d (.sc (.bool ((refO b a f).isSome)))] := by
 refine T.fn [] Tryz.func58 ?_
 refine brF ?_
 refine brF ?_
 refine brF ?_
 refine brF ?_
 refine brF ?_
 refine brF ?_
 refine brT ?_
 refine x_call T.en_105 (ref4Get_any b a f hb ha) ?_
 refine br (fun hc8 => ?y8) (fun hc8 => ?n8)
 case' y8 =>
  have hT : refO b a f = none := by unfold refO; rw [gC_none hc8]
 case' n8 =>
  obtain ⟨x, hg⟩ := gC_some (by split <;> decide) hc8
  have hx3 := getN_in (n := x.1) (e := x.2) hg
  rw [gE_some hg]
  rw [gN_some hg]
  refine x_call T.en_106 (r8getText_any b x.2 f 12 hb hx3.2.2.1) ?_
  refine br (fun hc9 => ?y9) (fun hc9 => ?n9)
  case' y9 =>
   have hg1 := none_of hc9
   have hT : refO b a f = none := by unfold refO; rw [hg]; simp only; rw [hg1]
  case' n9 =>
   obtain ⟨g, hg1⟩ := some_of hc9
   have hg3 := textO_le hg1
   rw [tE_some hg1]
   refine x_call T.en_106 (r8getText_any b g.2 f 12 hb hg3.2.1) ?_
   refine br (fun hc10 => ?y10) (fun hc10 => ?n10)
   case' y10 =>
    have hg2 := none_of hc10
    have hT : refO b a f = none := by unfold refO; rw [hg]; simp only; rw [hg1]; simp only; rw [hg2]
   case' n10 =>
    obtain ⟨m, hg2⟩ := some_of hc10
    have hT : refO b a f = some (⟨x.1, strL g.1, strL m.1⟩, m.2) := by unfold refO; rw [hg]; simp only; rw [hg1]; simp only; rw [hg2]
 all_goals (refine x_ret ?_; simp only [fitsL, fits, C.asD, and_true] <;> (rw [hT]; first | exact ⟨rfl, rfl, rfl⟩ | (rw [hg1, hg2]; exact ⟨rfl, rfl, rfl⟩)))
end Go.Vm
end
section
namespace Go.Vm
open Go.RowKit Go.Proofs
set_option linter.unusedVariables false
set_option linter.unusedSimpArgs false
set_option maxRecDepth 10000

set_option maxHeartbeats 1000000 in
theorem r8putT_any (f : Int) (x : ByteArray) (hf : fmtF f) (hx : x.size ≤ 1000000) : Contract Tryz.prog 55 [.sc (.int .i64 (f)), thD 1 0 x false 0 0 noRef 0] [.own 0 5 (byD (textP f x))] := by
 refine T.fn [] Tryz.func55 ?_
 refine brF ?_
 refine brF ?_
 refine brT ?_
 refine x_call T.en_100 (r8text_any f x hf hx) ?_
 all_goals (refine x_ret ?_; simp only [fitsL, fits, C.asD, and_true] <;> (exact own_fit rfl))

set_option maxHeartbeats 1000000 in
theorem ref13Text_any (f : Int) (x : ByteArray) (hf : fmtF f) (hx : x.size ≤ 1000000) : Contract Tryz.prog 137 [.sc (.int .i64 (f)), .sc (.string x)] [.own 0 5 (byD (textP f x))] := by
 refine T.fn [] Tryz.func137 ?_
 refine x_call T.en_55 (r8putT_any f x hf hx) ?_
 all_goals (refine x_ret ?_; simp only [fitsL, fits, C.asD, and_true] <;> (exact own_fit rfl))

set_option maxHeartbeats 1000000 in
theorem ref15Text_any (f : Int) (x : ByteArray) (hf : fmtF f) (hx : x.size ≤ 1000000) : Contract Tryz.prog 101 [.sc (.int .i64 (f)), .sc (.string x)] [.own 0 5 (byD (textP f x))] := by
 refine T.fn [] Tryz.func101 ?_
 refine x_call T.en_55 (r8putT_any f x hf hx) ?_
 all_goals (refine x_ret ?_; simp only [fitsL, fits, C.asD, and_true] <;> (exact own_fit rfl))

set_option maxHeartbeats 1000000 in
theorem ref13Put_any (f : Int) (x : FieldD) (hf : fmtF f) (h : OkF x) : Contract Tryz.prog 103 [.sc (.int .i64 (f)), fD x] [.own 0 5 (byD (fieldP f x))] := by
 refine T.fn [] Tryz.func103 ?_
 have hl1 := refP_len (f := f) h.scope h.group h.name
 have hl2 := putN_len f h.kind
 have hl3 := textP_len f (s := x.deft) (by have := h.deft; omega)
 have hl4 := putN_len f (n := (x.cases.length : Nat)) (by have := h.cases; omega)
 have hl5 := putN_len f h.worth
 have hd := h.deft
 have hcl := h.cases
 refine x_call T.en_55 (r8putR_any f x.at_ hf h.scope (by have := h.group; omega) (by have := h.name; omega)) ?_
 refine x_call T.en_99 (ref4Put_any f x.kind h.kind) ?_
 first | refine x_app ?_ (by first | exact one_wide | exact byD_wide _) (hz := by first | exact byD_app _ _ | exact rfl | rfl) (h1 := by unfold maxLen; ((try simp only [byD_len, List.length_append, List.length_nil, List.length_cons, List.length_map, Int.natCast_add]); omega)) (h2 := by ((try simp only [byD_len, List.length_append, List.length_nil, List.length_cons, List.length_map, Int.natCast_add]); omega)) | refine x_appN ?_ (by first | exact one_wide | exact byD_wide _) (h1 := by unfold maxLen; ((try simp only [byD_len, List.length_append, List.length_nil, List.length_cons, List.length_map, Int.natCast_add]); omega)) (h2 := by ((try simp only [byD_len, List.length_append, List.length_nil, List.length_cons, List.length_map, Int.natCast_add]); omega))
 refine x_call T.en_137 (ref13Text_any f x.deft hf (by omega)) ?_
 first | refine x_app ?_ (by first | exact one_wide | exact byD_wide _) (hz := by first | exact byD_app _ _ | exact rfl | rfl) (h1 := by unfold maxLen; ((try simp only [byD_len, List.length_append, List.length_nil, List.length_cons, List.length_map, Int.natCast_add]); omega)) (h2 := by ((try simp only [byD_len, List.length_append, List.length_nil, List.length_cons, List.length_map, Int.natCast_add]); omega)) | refine x_appN ?_ (by first | exact one_wide | exact byD_wide _) (h1 := by unfold maxLen; ((try simp only [byD_len, List.length_append, List.length_nil, List.length_cons, List.length_map, Int.natCast_add]); omega)) (h2 := by ((try simp only [byD_len, List.length_append, List.length_nil, List.length_cons, List.length_map, Int.natCast_add]); omega))
 refine x_len ?_
 refine x_call T.en_99 (ref4Put_any f (x.cases.length : Nat) (by omega)) ?_
 first | refine x_app ?_ (by first | exact one_wide | exact byD_wide _) (hz := by first | exact byD_app _ _ | exact rfl | rfl) (h1 := by unfold maxLen; ((try simp only [byD_len, List.length_append, List.length_nil, List.length_cons, List.length_map, Int.natCast_add]); omega)) (h2 := by ((try simp only [byD_len, List.length_append, List.length_nil, List.length_cons, List.length_map, Int.natCast_add]); omega)) | refine x_appN ?_ (by first | exact one_wide | exact byD_wide _) (h1 := by unfold maxLen; ((try simp only [byD_len, List.length_append, List.length_nil, List.length_cons, List.length_map, Int.natCast_add]); omega)) (h2 := by ((try simp only [byD_len, List.length_append, List.length_nil, List.length_cons, List.length_map, Int.natCast_add]); omega))
 refine xloopR (fb := []) T.ok (Nat.le_of_ble_eq_true rfl) [0, 3] (fun (k : Nat) => [(6, .c (.d (.sc (.int .i64 (k : Nat))))), (5, .c (.own 11 5 (byD ((((refP f x.at_ ++ putN f x.kind) ++ textP f x.deft) ++ putN f (x.cases.length : Nat)) ++ textsP f (x.cases.take k)))))]) (fun k => k ≤ x.cases.length) (fun k => x.cases.length - k) 0 (Nat.zero_le _) (x_ent (by first | rfl | (simp only [Tr.get]; simp; done)) (x_ent (by simp only [Tr.get]; simp [textsP, pairsB]) trivial)) ?_
 rintro k hk
 have htl := textsP_takeL (f := f) (k := k) h.cases h.each
 refine x_len ?_
 refine br (fun hc1 => ?y1) (fun hc1 => ?n1)
 case' y1 =>
  obtain ⟨p, hp⟩ := elem_at hc1
  have hkl := lt_len hp
  have hps := h.each p (List.mem_of_getElem? hp)
  have hpl := textP_len f (s := p) (by omega)
  first | refine x_ix (by exact mapAt hp) ?_ | refine x_ixI (by exact mapAt hp) ?_
  refine x_call T.en_137 (ref13Text_any f p hf (by omega)) ?_
  first | refine x_app ?_ (by first | exact one_wide | exact byD_wide _) (hz := by first | exact byD_app _ _ | exact rfl | rfl) (h1 := by unfold maxLen; ((try simp only [byD_len, List.length_append, List.length_nil, List.length_cons, List.length_map, Int.natCast_add]); omega)) (h2 := by ((try simp only [byD_len, List.length_append, List.length_nil, List.length_cons, List.length_map, Int.natCast_add]); omega)) | refine x_appN ?_ (by first | exact one_wide | exact byD_wide _) (h1 := by unfold maxLen; ((try simp only [byD_len, List.length_append, List.length_nil, List.length_cons, List.length_map, Int.natCast_add]); omega)) (h2 := by ((try simp only [byD_len, List.length_append, List.length_nil, List.length_cons, List.length_map, Int.natCast_add]); omega))
  first | refine x_inc ?_ (h := by ((try simp only [byD_len, List.length_append, List.length_nil, List.length_cons, List.length_map, Int.natCast_add]); omega)) | refine x_add ?_ (h := by first | exact IntWalk.i64_in _ (by ((try simp only [byD_len, List.length_append, List.length_nil, List.length_cons, List.length_map, Int.natCast_add]); omega)) | rfl) | refine x_bin rfl rfl ?_
  refine x_rnd (k + 1) (lt_len hp) (by (try dsimp only); have := lt_len hp; omega) rfl (x_ent (by first | rfl | (simp only [Tr.get]; simp; done)) (x_ent (by simp only [Tr.get]; rw [textsP_take hp]; simp) trivial)) rfl
 case' n1 =>
  have hend : x.cases.take k = x.cases := List.take_of_length_le (past_end hc1)
  refine x_call T.en_99 (ref4Put_any f x.worth h.worth) ?_
  first | refine x_app ?_ (by first | exact one_wide | exact byD_wide _) (hz := by first | exact byD_app _ _ | exact rfl | rfl) (h1 := by unfold maxLen; ((try simp only [byD_len, List.length_append, List.length_nil, List.length_cons, List.length_map, Int.natCast_add]); omega)) (h2 := by ((try simp only [byD_len, List.length_append, List.length_nil, List.length_cons, List.length_map, Int.natCast_add]); omega)) | refine x_appN ?_ (by first | exact one_wide | exact byD_wide _) (h1 := by unfold maxLen; ((try simp only [byD_len, List.length_append, List.length_nil, List.length_cons, List.length_map, Int.natCast_add]); omega)) (h2 := by ((try simp only [byD_len, List.length_append, List.length_nil, List.length_cons, List.length_map, Int.natCast_add]); omega))
 all_goals (refine x_ret ?_; simp only [fitsL, fits, C.asD, and_true] <;> (refine own_fit ?_; rw [hend]; unfold fieldP; simp [byD]))

set_option maxHeartbeats 1000000 in
theorem ref15Pairs_any (f : Int) (l : List (ByteArray × ByteArray)) (hf : fmtF f) (hl : l.length ≤ 20) (h : ∀ t ∈ l, t.1.size ≤ 200 ∧ t.2.size ≤ 200) : Contract Tryz.prog 102 [.sc (.int .i64 (f)), .row (l.map pairD)] [.own 0 5 (byD (pairsP f l))] := by
 refine T.fn [] Tryz.func102 ?_
 have hl4 := putN_len f (n := (l.length : Nat)) (by omega)
 refine x_len ?_
 refine x_call T.en_99 (ref4Put_any f (l.length : Nat) (by omega)) ?_
 refine xloopR (fb := []) T.ok (Nat.le_of_ble_eq_true rfl) [0, 1] (fun (k : Nat) => [(6, .c (.d (.sc (.int .i64 (k : Nat))))), (5, .c (.own 10 5 (byD (putN f (l.length : Nat) ++ pairsB f (l.take k)))))]) (fun k => k ≤ l.length) (fun k => l.length - k) 0 (Nat.zero_le _) (x_ent (by first | rfl | (simp only [Tr.get]; simp; done)) (x_ent (by simp only [Tr.get]; simp [textsP, pairsB]) trivial)) ?_
 rintro k hk
 have htl := pairsB_takeL (f := f) (k := k) hl h
 refine x_len ?_
 refine br (fun hc1 => ?y1) (fun hc1 => ?n1)
 case' y1 =>
  obtain ⟨p, hp⟩ := elem_at hc1
  have hkl := lt_len hp
  have hps := h p (List.mem_of_getElem? hp)
  have hpl := textP_len f (s := p.1) (by omega)
  have hpl2 := textP_len f (s := p.2) (by omega)
  first | refine x_ix (by exact mapAt hp) ?_ | refine x_ixI (by exact mapAt hp) ?_
  refine x_call T.en_101 (ref15Text_any f p.1 hf (by omega)) ?_
  first | refine x_app ?_ (by first | exact one_wide | exact byD_wide _) (hz := by first | exact byD_app _ _ | exact rfl | rfl) (h1 := by unfold maxLen; ((try simp only [byD_len, List.length_append, List.length_nil, List.length_cons, List.length_map, Int.natCast_add]); omega)) (h2 := by ((try simp only [byD_len, List.length_append, List.length_nil, List.length_cons, List.length_map, Int.natCast_add]); omega)) | refine x_appN ?_ (by first | exact one_wide | exact byD_wide _) (h1 := by unfold maxLen; ((try simp only [byD_len, List.length_append, List.length_nil, List.length_cons, List.length_map, Int.natCast_add]); omega)) (h2 := by ((try simp only [byD_len, List.length_append, List.length_nil, List.length_cons, List.length_map, Int.natCast_add]); omega))
  first | refine x_ix (by exact mapAt hp) ?_ | refine x_ixI (by exact mapAt hp) ?_
  refine x_call T.en_101 (ref15Text_any f p.2 hf (by omega)) ?_
  first | refine x_app ?_ (by first | exact one_wide | exact byD_wide _) (hz := by first | exact byD_app _ _ | exact rfl | rfl) (h1 := by unfold maxLen; ((try simp only [byD_len, List.length_append, List.length_nil, List.length_cons, List.length_map, Int.natCast_add]); omega)) (h2 := by ((try simp only [byD_len, List.length_append, List.length_nil, List.length_cons, List.length_map, Int.natCast_add]); omega)) | refine x_appN ?_ (by first | exact one_wide | exact byD_wide _) (h1 := by unfold maxLen; ((try simp only [byD_len, List.length_append, List.length_nil, List.length_cons, List.length_map, Int.natCast_add]); omega)) (h2 := by ((try simp only [byD_len, List.length_append, List.length_nil, List.length_cons, List.length_map, Int.natCast_add]); omega))
  first | refine x_inc ?_ (h := by ((try simp only [byD_len, List.length_append, List.length_nil, List.length_cons, List.length_map, Int.natCast_add]); omega)) | refine x_add ?_ (h := by first | exact IntWalk.i64_in _ (by ((try simp only [byD_len, List.length_append, List.length_nil, List.length_cons, List.length_map, Int.natCast_add]); omega)) | rfl) | refine x_bin rfl rfl ?_
  refine x_rnd (k + 1) (lt_len hp) (by (try dsimp only); have := lt_len hp; omega) rfl (x_ent (by first | rfl | (simp only [Tr.get]; simp; done)) (x_ent (by simp only [Tr.get]; rw [pairsB_take hp]; simp) trivial)) rfl
 case' n1 =>
  have hend : l.take k = l := List.take_of_length_le (past_end hc1)
 all_goals (refine x_ret ?_; simp only [fitsL, fits, C.asD, and_true] <;> (refine own_fit ?_; rw [hend]; unfold pairsP; simp [byD]))

set_option maxHeartbeats 1000000 in
theorem ref15Put_any (f : Int) (x : LensD) (hf : fmtF f) (h : OkB x) : Contract Tryz.prog 56 [.sc (.int .i64 (f)), lD x] [.own 0 5 (byD (lensP f x))] := by
 refine T.fn [] Tryz.func56 ?_
 have hl0 := putN_len f h.kind
 have hl1 := refP_len (f := f) h.scope h.group h.rname
 have hl2 := textP_len f (s := x.name) (by have := h.name; omega)
 have hl3 := textP_len f (s := x.other) (by have := h.other; omega)
 have hl4 := putN_len f h.factor
 have hl5 := pairsP_len (f := f) h.forth h.feach
 have hl6 := pairsP_len (f := f) h.back h.beach
 have hl7 := fieldP_len (f := f) h.field
 have hd1 := h.name
 have hd2 := h.other
 refine x_call T.en_99 (ref4Put_any f x.kind h.kind) ?_
 refine x_call T.en_55 (r8putR_any f x.at_ hf h.scope (by have := h.group; omega) (by have := h.rname; omega)) ?_
 first | refine x_app ?_ (by first | exact one_wide | exact byD_wide _) (hz := by first | exact byD_app _ _ | exact rfl | rfl) (h1 := by unfold maxLen; ((try simp only [byD_len, List.length_append, List.length_nil, List.length_cons, List.length_map, Int.natCast_add]); omega)) (h2 := by ((try simp only [byD_len, List.length_append, List.length_nil, List.length_cons, List.length_map, Int.natCast_add]); omega)) | refine x_appN ?_ (by first | exact one_wide | exact byD_wide _) (h1 := by unfold maxLen; ((try simp only [byD_len, List.length_append, List.length_nil, List.length_cons, List.length_map, Int.natCast_add]); omega)) (h2 := by ((try simp only [byD_len, List.length_append, List.length_nil, List.length_cons, List.length_map, Int.natCast_add]); omega))
 refine x_call T.en_101 (ref15Text_any f x.name hf (by omega)) ?_
 first | refine x_app ?_ (by first | exact one_wide | exact byD_wide _) (hz := by first | exact byD_app _ _ | exact rfl | rfl) (h1 := by unfold maxLen; ((try simp only [byD_len, List.length_append, List.length_nil, List.length_cons, List.length_map, Int.natCast_add]); omega)) (h2 := by ((try simp only [byD_len, List.length_append, List.length_nil, List.length_cons, List.length_map, Int.natCast_add]); omega)) | refine x_appN ?_ (by first | exact one_wide | exact byD_wide _) (h1 := by unfold maxLen; ((try simp only [byD_len, List.length_append, List.length_nil, List.length_cons, List.length_map, Int.natCast_add]); omega)) (h2 := by ((try simp only [byD_len, List.length_append, List.length_nil, List.length_cons, List.length_map, Int.natCast_add]); omega))
 refine x_call T.en_101 (ref15Text_any f x.other hf (by omega)) ?_
 first | refine x_app ?_ (by first | exact one_wide | exact byD_wide _) (hz := by first | exact byD_app _ _ | exact rfl | rfl) (h1 := by unfold maxLen; ((try simp only [byD_len, List.length_append, List.length_nil, List.length_cons, List.length_map, Int.natCast_add]); omega)) (h2 := by ((try simp only [byD_len, List.length_append, List.length_nil, List.length_cons, List.length_map, Int.natCast_add]); omega)) | refine x_appN ?_ (by first | exact one_wide | exact byD_wide _) (h1 := by unfold maxLen; ((try simp only [byD_len, List.length_append, List.length_nil, List.length_cons, List.length_map, Int.natCast_add]); omega)) (h2 := by ((try simp only [byD_len, List.length_append, List.length_nil, List.length_cons, List.length_map, Int.natCast_add]); omega))
 refine x_call T.en_99 (ref4Put_any f x.factor h.factor) ?_
 first | refine x_app ?_ (by first | exact one_wide | exact byD_wide _) (hz := by first | exact byD_app _ _ | exact rfl | rfl) (h1 := by unfold maxLen; ((try simp only [byD_len, List.length_append, List.length_nil, List.length_cons, List.length_map, Int.natCast_add]); omega)) (h2 := by ((try simp only [byD_len, List.length_append, List.length_nil, List.length_cons, List.length_map, Int.natCast_add]); omega)) | refine x_appN ?_ (by first | exact one_wide | exact byD_wide _) (h1 := by unfold maxLen; ((try simp only [byD_len, List.length_append, List.length_nil, List.length_cons, List.length_map, Int.natCast_add]); omega)) (h2 := by ((try simp only [byD_len, List.length_append, List.length_nil, List.length_cons, List.length_map, Int.natCast_add]); omega))
 refine x_call T.en_102 (ref15Pairs_any f x.forth hf h.forth h.feach) ?_
 first | refine x_app ?_ (by first | exact one_wide | exact byD_wide _) (hz := by first | exact byD_app _ _ | exact rfl | rfl) (h1 := by unfold maxLen; ((try simp only [byD_len, List.length_append, List.length_nil, List.length_cons, List.length_map, Int.natCast_add]); omega)) (h2 := by ((try simp only [byD_len, List.length_append, List.length_nil, List.length_cons, List.length_map, Int.natCast_add]); omega)) | refine x_appN ?_ (by first | exact one_wide | exact byD_wide _) (h1 := by unfold maxLen; ((try simp only [byD_len, List.length_append, List.length_nil, List.length_cons, List.length_map, Int.natCast_add]); omega)) (h2 := by ((try simp only [byD_len, List.length_append, List.length_nil, List.length_cons, List.length_map, Int.natCast_add]); omega))
 refine x_call T.en_102 (ref15Pairs_any f x.back hf h.back h.beach) ?_
 first | refine x_app ?_ (by first | exact one_wide | exact byD_wide _) (hz := by first | exact byD_app _ _ | exact rfl | rfl) (h1 := by unfold maxLen; ((try simp only [byD_len, List.length_append, List.length_nil, List.length_cons, List.length_map, Int.natCast_add]); omega)) (h2 := by ((try simp only [byD_len, List.length_append, List.length_nil, List.length_cons, List.length_map, Int.natCast_add]); omega)) | refine x_appN ?_ (by first | exact one_wide | exact byD_wide _) (h1 := by unfold maxLen; ((try simp only [byD_len, List.length_append, List.length_nil, List.length_cons, List.length_map, Int.natCast_add]); omega)) (h2 := by ((try simp only [byD_len, List.length_append, List.length_nil, List.length_cons, List.length_map, Int.natCast_add]); omega))
 refine br (fun hg1 => ?y1) (fun hg1 => ?n1)
 case' y1 =>
  refine brT ?_
  refine x_call T.en_103 (ref13Put_any f x.field hf h.field) ?_
  first | refine x_app ?_ (by first | exact one_wide | exact byD_wide _) (hz := by first | exact byD_app _ _ | exact rfl | rfl) (h1 := by unfold maxLen; ((try simp only [byD_len, List.length_append, List.length_nil, List.length_cons, List.length_map, Int.natCast_add]); omega)) (h2 := by ((try simp only [byD_len, List.length_append, List.length_nil, List.length_cons, List.length_map, Int.natCast_add]); omega)) | refine x_appN ?_ (by first | exact one_wide | exact byD_wide _) (h1 := by unfold maxLen; ((try simp only [byD_len, List.length_append, List.length_nil, List.length_cons, List.length_map, Int.natCast_add]); omega)) (h2 := by ((try simp only [byD_len, List.length_append, List.length_nil, List.length_cons, List.length_map, Int.natCast_add]); omega))
 case' n1 =>
  refine br (fun hc3 => ?y3) (fun hc3 => ?n3)
  case' y3 =>
   refine x_call T.en_103 (ref13Put_any f x.field hf h.field) ?_
   first | refine x_app ?_ (by first | exact one_wide | exact byD_wide _) (hz := by first | exact byD_app _ _ | exact rfl | rfl) (h1 := by unfold maxLen; ((try simp only [byD_len, List.length_append, List.length_nil, List.length_cons, List.length_map, Int.natCast_add]); omega)) (h2 := by ((try simp only [byD_len, List.length_append, List.length_nil, List.length_cons, List.length_map, Int.natCast_add]); omega)) | refine x_appN ?_ (by first | exact one_wide | exact byD_wide _) (h1 := by unfold maxLen; ((try simp only [byD_len, List.length_append, List.length_nil, List.length_cons, List.length_map, Int.natCast_add]); omega)) (h2 := by ((try simp only [byD_len, List.length_append, List.length_nil, List.length_cons, List.length_map, Int.natCast_add]); omega))
 all_goals (refine x_ret ?_; simp only [fitsL, fits, C.asD, and_true] <;> (refine own_fit ?_; unfold lensP; first | (rw [if_pos (by omega)]; simp [byD]; done) | (rw [if_neg (by omega)]; simp [byD]; done)))
end Go.Vm
end
section
namespace Go.Vm
open Go.RowKit
set_option linter.unusedVariables false
set_option linter.unusedSimpArgs false

def allocK : List (Nat × Nat × Nat) → Tr → (Tr → Prop) → Prop
  | [], t, K => K t
  | q :: l, t, K => allocK l t fun t => setK 20 t q.2.1 (.gbox q.2.2 []) K
theorem allocK_spec : ∀ {ps : List (Nat × Nat × Nat)} {t : Tr} {K : Tr → Prop}, allocK ps t K → ∃ t', (∀ u, t'.get u = match ps.find? fun q => q.2.1 == u with
    | some q => .gbox q.2.2 []
    | none => t.get u) ∧ K t'
  | [], t, K, h => ⟨t, fun _ => rfl, h⟩
  | q :: l, t, K, h => by
    obtain ⟨t1, h1, h2⟩ := allocK_spec (ps := l) h
    obtain ⟨t2, h3, h4⟩ := setK_spec h2
    refine ⟨t2, fun u => ?_, h4⟩
    rw [h3, h1, List.find?_cons]
    by_cases e : u = q.2.1
    · subst e; simp
    · have : (q.2.1 == u) = false := by simpa using fun e2 => e e2.symm
      simp [this, e]

section
variable {P : Program} {N : Nat} {t : Tr} {h : Hp} {o : Oper}
theorem x_allocU {T d : Nat} {zs : List D} (ps : List (Nat × Nat × Nat)) {K : Tr → Hp → Prop} (hz : zeroOf P T = some zs) (hps : ∀ q ∈ ps, zs[q.1]? = some (.row []) ∧ BIG ≤ q.2.1 ∧ 0 < q.2.2) (hlo : ∀ q ∈ ps, q.2.1 < NAM)
    (hk : mapK (unrefK d) t fun t1 => setK 20 t1 d (.ubox (ucells zs ps)) fun t2 => allocK ps t2 fun t3 => K t3 h)
    (hop : o.op = .alloc T := by rfl) (hd : o.dst = some d := by rfl) (hdN : d < N := by exact Nat.le_of_ble_eq_true rfl) (hNB : N ≤ BIG := by exact Nat.le_of_ble_eq_true rfl) :
    StepP P N o (envT t h) fun e => ∃ (t' : Tr) (h' : Hp), e = envT t' h' ∧ K t' h' := by
  refine stepP_of ?_
  have hdB : d < BIG := Nat.lt_of_lt_of_le hdN hNB
  obtain ⟨t1, k1, hk⟩ := mapK_spec (f := unref d) rfl unrefK_spec hk
  obtain ⟨t2, k2, hk⟩ := setK_spec hk
  obtain ⟨t3, k3, hk⟩ := allocK_spec hk
  refine ⟨t3, h, ?_, hk⟩
  have e : envT t3 h = envG ps (upd (boxEnv (envT t h) d zs) (some d) (.ubox (ucells zs ps))) := by
    funext u
    unfold envG
    by_cases hu : u < NAM
    · rw [envT_lt hu, k3]
      cases hf : ps.find? fun q => q.2.1 == u with
      | some q => rfl
      | none =>
        simp only
        rw [k2, k1]
        simp only [upd, boxEnv]
        by_cases ed : u = d
        · simp [ed]
        · simp only [if_neg ed]; rw [envT_lt hu]
    · have hf : (ps.find? fun q => q.2.1 == u) = none := by
        rw [List.find?_eq_none]
        intro q hq
        have := hlo q hq
        simp only [beq_iff_eq]; omega
      rw [hf]
      have hne : ¬ u = d := by have := nam hdB; omega
      simp only [upd, boxEnv, if_neg hne]
      simp only [envT, if_neg hu]
      exact (nameS_unref _).symm
  rw [e]
  exact s_allocU hop hz hps hd hdN hdB
theorem x_buildU {T d : Nat} {parts : Array (Nat × Operand)} {zs : List D} {ps : List (Nat × Nat)} (us : List (Nat × Nat × Nat)) {K : Tr → Hp → Prop} (hi : tyOk P T (.agg ps zs)) (hus : ∀ q ∈ us, zs[q.1]? = some (.row []) ∧ BIG ≤ q.2.1 ∧ 0 < q.2.2) (hlo : ∀ q ∈ us, q.2.1 < NAM)
    (hk : fillK t ps parts.toList (ucells zs us) fun cs => setK 20 t d (.uagg cs) fun t2 => allocK us t2 fun t3 => K t3 h)
    (hop : o.op = .build T parts := by rfl) (hd : o.dst = some d := by rfl) (hdN : d < N := by exact Nat.le_of_ble_eq_true rfl) (hNB : N ≤ BIG := by exact Nat.le_of_ble_eq_true rfl) :
    StepP P N o (envT t h) fun e => ∃ (t' : Tr) (h' : Hp), e = envT t' h' ∧ K t' h' := by
  refine stepP_of ?_
  have hdB : d < BIG := Nat.lt_of_lt_of_le hdN hNB
  obtain ⟨ds, cs, h1, h2, hk⟩ := fillK_spec (h := h) hk
  obtain ⟨t2, k2, hk⟩ := setK_spec hk
  obtain ⟨t3, k3, hk⟩ := allocK_spec hk
  refine ⟨t3, h, ?_, hk⟩
  have e : envT t3 h = envG us (upd (envT t h) (some d) (.uagg cs)) := by
    funext u
    unfold envG
    by_cases hu : u < NAM
    · rw [envT_lt hu, k3]
      cases hf : us.find? fun q => q.2.1 == u with
      | some q => rfl
      | none =>
        simp only
        rw [k2]
        simp only [upd]
        by_cases ed : u = d
        · simp [ed]
        · simp only [if_neg ed]; rw [envT_lt hu]
    · have hf : (us.find? fun q => q.2.1 == u) = none := by
        rw [List.find?_eq_none]
        intro q hq
        have := hlo q hq
        simp only [beq_iff_eq]; omega
      rw [hf]
      have hne : ¬ u = d := by have := nam hdB; omega
      simp only [upd, if_neg hne]
      simp only [envT, if_neg hu]
  rw [e]
  obtain ⟨_, hp, hz⟩ := hi
  unfold placesOf at hp
  split at hp
  · rename_i fields hT
    exact s_buildU hop hT hp hz hus h1 h2 hd hdN
  · cases hp
theorem calm_appG (env : Env) (id d : Nat) (s g : S) (h1 : nb s = true) (h2 : ∀ a b, s ≠ .ref a b) (h3 : nb g = true) (h4 : ∀ a b, g ≠ .ref a b) : CalmE env (appG env id d s g) := by
  intro t
  simp only [appG]
  split
  · exact ⟨fun a b e => absurd e (h2 a b), fun _ => h1⟩
  · split
    · exact ⟨fun a b e => absurd e (h4 a b), fun _ => h3⟩
    · refine ⟨fun a b e => ?_, fun e => ?_⟩
      · cases hs : env t <;> rw [hs] at e <;> simp only [dropG] at e <;> first | (cases e; done) | (split at e <;> first | (cases e; done) | exact e)
      · cases hs : env t <;> rw [hs] at e <;> simp only [dropG] <;> first | rfl | (cases e; done) | (split <;> rfl)
/-- An append that stands alone. -/
theorem b_appG {T e : TypeId} {sz bytes id n d m : Nat} {x y : Operand} {xs ys zs : List D} {K : Tr → Hp → Prop} (hT : elemFull P T = some (e, sz, bytes))
    (hx : vget (envT t h) x = .sref id sz n) (hg : t.get id = .gbox sz xs) (hy : vd (envT t h) y = some (.row ys)) (hn : xs.length = n) (hw : ∀ y ∈ ys, y.cells.length = sz) (h63 : n + ys.length ≤ maxLen) (hby : (n + ys.length) * bytes ≤ 140737488355328) (hz : xs ++ ys = zs) (hm : n + ys.length = m)
    (hk : mapK (dropGK id) t fun t1 => setK 20 t1 id (.gbox sz zs) fun t2 => setK 20 t2 d (.sref id sz m) fun t3 => K t3 h)
    (hop : o.op = .call { callee := .builtin .append, args := #[x, y], argTypes := #[T, T] } := by rfl) (hd : o.dst = some d := by rfl) (hdN : d < N := by exact Nat.le_of_ble_eq_true rfl) (hNB : N ≤ BIG := by exact Nat.le_of_ble_eq_true rfl) (hid : BIG ≤ id := by exact Nat.le_of_ble_eq_true rfl) (hid2 : id < NAM := by exact Nat.le_of_ble_eq_true rfl) :
    ∃ (t' : Tr) (h' : Hp), (Step P N o (envT t h) (envT t' h') ∧ CalmE (envT t h) (envT t' h')) ∧ K t' h' := by
  subst hz hm
  obtain ⟨t1, k1, hk⟩ := mapK_spec (f := dropG id) rfl dropGK_spec hk
  obtain ⟨t2, k2, hk⟩ := setK_spec hk
  obtain ⟨t3, k3, hk⟩ := setK_spec hk
  have hdB : d < BIG := Nat.lt_of_lt_of_le hdN hNB
  refine ⟨t3, h, ⟨?_, ?_⟩, hk⟩
  · rw [envT_appG (nam hdB) hid2 (by omega) k1 k2 k3]; exact s_appendG hop hT hx (at_row hid2 hg) hn hy hw h63 hby hd hdN hdB
  · rw [envT_appG (nam hdB) hid2 (by omega) k1 k2 k3]
    exact calm_appG _ _ _ _ _ rfl (by simp) rfl (by simp)
/-- From now on nobody writes the row that stands at id: the variable holds data (at a move). -/
theorem x_frU {tv id sz d : Nat} {x : Operand} {cs cs' xs : List D} {K : Tr → Hp → Prop} (htv : t.get tv = .ubox cs) (hg : t.get id = .gbox sz xs) (hcs : cs.map (frzC id xs) = cs') (hp : cs'.all plainD = true)
    (hk : mapK (dropGK id) t fun t1 => setK 20 t1 id (.gbox sz []) fun t2 => setK 20 t2 tv (.box cs') fun t3 => ovK t3 x fun s => sK s fun s => setK 20 t3 d s fun t4 => K t4 h)
    (hop : o.op = .move x ∨ o.op = .assign x := by first | exact .inl rfl | exact .inr rfl) (hd : o.dst = some d := by rfl) (hdN : d < N := by exact Nat.le_of_ble_eq_true rfl) (hNB : N ≤ BIG := by exact Nat.le_of_ble_eq_true rfl) (hid : BIG ≤ id := by exact Nat.le_of_ble_eq_true rfl) (hid2 : id < NAM := by exact Nat.le_of_ble_eq_true rfl) (htB : tv < BIG := by exact Nat.le_of_ble_eq_true rfl) :
    StepP P N o (envT t h) fun e => ∃ (t' : Tr) (h' : Hp), e = envT t' h' ∧ K t' h' := by
  obtain ⟨t1, k1, hk⟩ := mapK_spec (f := dropG id) rfl dropGK_spec hk
  obtain ⟨t2, k2, hk⟩ := setK_spec hk
  obtain ⟨t3, k3, hk⟩ := setK_spec hk
  have hk := sK_spec (ovK_spec (h := h) hk)
  obtain ⟨t4, k4, hk⟩ := setK_spec hk
  have hdB : d < BIG := Nat.lt_of_lt_of_le hdN hNB
  have hst : Step P N o (envT t3 h) (upd (envT t3 h) (some d) (vget (envT t3 h) x)) := by
    rcases hop with hop | hop
    · have := (y_move (P := P) (N := N) (env := envT t3 h) hop rfl hd hdN).step; rwa [hd] at this
    · have := (y_assign (P := P) (N := N) (env := envT t3 h) hop rfl hd hdN).step; rwa [hd] at this
  intro base w0 ro0 a w ⟨ro, blk, hs⟩ K' Q hK'
  obtain ⟨ro', hs2⟩ := hs.freezeU (tv := tv) (id := id) (sz := sz) (cs := cs) (xs := xs) (by rw [envT_lt (nam htB)]; exact htv) (at_row hid2 hg) htB hid
  rw [hcs.symm] at hp k3
  have hs3 := hs2.plainU (tv := tv) (cs := cs.map (frzC id xs)) (by simp [frzE]) hp
  have e : envT t3 h = upd (frzE tv id sz cs xs (envT t h)) (some tv) (.box (cs.map (frzC id xs))) := by
    funext u
    simp only [upd, frzE]
    by_cases hu : u < NAM
    · rw [envT_lt hu, k3, k2, k1]
      by_cases e1 : u = tv
      · simp [e1]
      · simp only [if_neg e1]
        by_cases e2 : u = id
        · simp [e2]
        · simp only [if_neg e2]; rw [envT_lt hu]
    · have h1 : ¬ u = tv := by have := nam htB; omega
      have h2 : ¬ u = id := by omega
      simp only [if_neg h1, if_neg h2, envT, if_neg hu]
      exact (nameS_dropG _).symm
  rw [← e] at hs3
  refine hst base w0 ro0 a w ⟨ro', blk, hs3⟩ K' Q fun a' w' hs' => hK' _ _ _ ⟨t4, h, ?_, hk⟩ hs'
  rw [envT_set (nam hdB) k4]
def chgOf (pre post : List (Nat × S)) : Nat → Option S := fun t => match post.find? fun p => p.1 == t with
  | some p => some p.2
  | none => if nameIn pre t then some .junk else none
theorem chgOf_app (pre post : List (Nat × S)) (env : Env) : chgE (chgOf pre post) env = setH pre post env := by
  funext t
  unfold chgE chgOf setH
  cases post.find? fun p => p.1 == t with
  | some p => rfl
  | none => simp only; split <;> rfl
/-- A call that writes things, in a region of whatever order. -/
theorem q_callH {ops : Array Oper} {fb : List Nat} {f : FuncId} {xs : Array Operand} {ts : Array TypeId} {ds : List D} {res : List C} {d : Nat} {pre post : List (Nat × S)} {K : S → Hp → Prop} (he : enters P f = true) (hc : ContractH P f ds pre res post) (hK : K (resS (res.map (setTok d))) (hpost h post)) (hpre : preOk h pre)
    (hl : ∀ p ∈ pre, live p.2 = true := by simp [live]) (hq : ∀ p ∈ post, live p.2 = true ∧ nameIn pre p.1 = true := by simp [live, nameIn]) (hall : ∀ p ∈ pre, nameIn post p.1 = true := by simp [nameIn]) (hnb : nb (resS (res.map (setTok d))) = true := by rfl) (hnr : ∀ a b, resS (res.map (setTok d)) ≠ .ref a b := by intro a b e; cases e)
    (hop : o.op = .call { callee := .value (.func f), args := xs, argTypes := ts } := by rfl) (hx : vargs (envT t h) xs.toList = some ds := by rfl) (hd : o.dst = some d := by rfl) (hdN : d < N := by exact Nat.le_of_ble_eq_true rfl) (hNB : N ≤ BIG := by exact Nat.le_of_ble_eq_true rfl) (hg : guardOk ops o (envT t h) = some true := by rfl) (hcl : Nat.beq (clsOf fb o) 2 = true := by rfl) :
    ∃ (eff : Eff) (s : S) (h' : Hp), (DG P N fb ops o (envT t h) eff ∧ eff.app (envT t h) = upd (envT t h') (some d) s) ∧ K s h' := by
  have hp := preOk_spec hpre
  have hpe := pre_env (t := t) hpre (fun p hm => .inl (hl p hm))
  have hbig : ∀ p ∈ post, NAM ≤ p.1 := fun p hm => by
    obtain ⟨s, hs⟩ := nameIn_mem (hq p hm).2
    exact (hp _ hs).1
  have hlv : ∀ s, live s = true → nb s = true ∧ ∀ a b, s ≠ .ref a b := fun s hs => by
    cases s <;> first | (cases hs; done) | exact ⟨rfl, by simp⟩
  refine ⟨.named (some d) (resS (res.map (setTok d))) (chgOf pre post), _, _, ⟨⟨⟨hd.symm, hnb, hnr, Nat.eq_of_beq_eq_true hcl, fun u r hu => ?_⟩, fun x t' off ha _ => by simp [addrOf, hop] at ha, .inl ⟨hg, fun env' ha _ => ?_⟩, fun u hu => by injection hu with hu; exact hu ▸ Nat.lt_of_lt_of_le hdN hNB⟩, ?_⟩, hK⟩
  · unfold chgOf at hu
    cases hf : post.find? fun p => p.1 == u with
    | some p =>
      rw [hf] at hu; injection hu with hu; subst hu
      have hm := List.mem_of_find?_eq_some hf
      have h2 := List.find?_some hf
      simp only [beq_iff_eq] at h2
      exact ⟨h2 ▸ hbig p hm, hlv _ (hq p hm).1⟩
    | none =>
      rw [hf] at hu
      simp only at hu
      split at hu
      · rename_i hn
        injection hu with hu; subst hu
        obtain ⟨s, hs⟩ := nameIn_mem hn
        exact ⟨(hp _ hs).1, rfl, by simp⟩
      · cases hu
  · have ha' := ha.all (by rw [Nat.eq_of_beq_eq_true hcl]; decide)
    have hn : ∀ p ∈ pre, env' p.1 = p.2 := fun p hm => (ha'.2.2 p.1 (Nat.le_trans (by decide) (hp p hm).1)).trans (hpe p hm).1
    have hx' : vargs env' xs.toList = some ds := by
      rw [← hx]
      exact vargs_agree fun x hm => ha'.getD (by simp only [hop, Op.operands, Call.operands]; simp; exact .inr (by simpa using hm))
    have := s_callH (N := N) (env := env') hop he hx' hc (fun p hm => ⟨hn p hm, .inl (hl p hm)⟩) (fun p hm => ⟨(hq p hm).1, (hq p hm).2, Nat.le_trans (by decide) (hbig p hm)⟩) hd hdN hNB
    show Step P N o env' (upd (chgE (chgOf pre post) env') (some d) _)
    rw [chgOf_app]; exact this
  · show upd (chgE (chgOf pre post) (envT t h)) (some d) _ = _
    rw [chgOf_app, setH_env hpre hq hall]
end
end Go.Vm
end
section
namespace Go.Vm
open Go.RowKit Go.Proofs
set_option linter.unusedVariables false
set_option linter.unusedSimpArgs false
set_option maxRecDepth 10000

theorem pairL_snoc {b : List UInt8} {f : Int} {k : Nat} {s : St} : ((pairL b f k s).1.map pairD) ++ [pairD (strL (textR b f 12 (pairL b f k s).2).1, strL (textR b f 12 (textR b f 12 (pairL b f k s).2).2).1)] = (pairL b f (k + 1) s).1.map pairD := by rw [pairL]; simp

set_option maxHeartbeats 1000000 in
theorem fieldGet_any (t : Nat) (ht : NAM ≤ t) (b : List UInt8) (f : Int) (s : Nat × Bool) (hb : b.length ≤ 16000000) (hs : s.1 ≤ b.length) : ContractH Tryz.prog 98 [.ptr t 0] [(t, rdS b f s)] [.d (fD (fieldR b f s).1)] [(t, rdS b f (fieldR b f s).2)] := by
 refine T.fnH [5, 8, 11, 14, 26, 29, 36, 1022, 2003, 2022, 2025, 4020, 6017, 6018] Tryz.func98 ?_ (by simp only [List.forall_mem_cons, List.not_mem_nil, false_implies, implies_true, and_true]; exact ht) (by simp [thing]) (by simp [thing])
 have h1 := fs1_inv (f := f) hs
 have h2 := fs2_inv (f := f) hs
 have h3 := fs3_inv (f := f) hs
 have h4 := fs4_inv (f := f) hs
 have h5 := fs5_inv (f := f) hs
 have h6 := fs6_inv (f := f) hs
 refine x_allocU [(5, 500003, 1)] (zI_ok (T.ok 28 _ rfl) rfl) (by simp only [List.mem_singleton, forall_eq]; exact ⟨rfl, by decide, by decide⟩) (by simp only [List.mem_singleton, forall_eq]; decide) ?_
 refine x_callH T.en_95 (ref8_any t ht b f s hb hs) ?_ ⟨⟨ht, (by first | rfl | (simp only [hOf, hset, hpost, if_true, if_false, not_false_eq_true]; first | done | rfl))⟩, trivial⟩
 refine x_callH T.en_94 (num_any t ht b f (fs1 b f s) hb h1) ?_ ⟨⟨ht, (by first | rfl | (simp only [hOf, hset, hpost, if_true, if_false, not_false_eq_true]; first | done | rfl))⟩, trivial⟩
 refine x_callH T.en_96 (text8_any t ht b f 40 (fs2 b f s) hb h2) ?_ ⟨⟨ht, (by first | rfl | (simp only [hOf, hset, hpost, if_true, if_false, not_false_eq_true]; first | done | rfl))⟩, trivial⟩
 refine x_callH T.en_135 (count_any t ht b f 6 (fs3 b f s) hb h3) ?_ ⟨⟨ht, (by first | rfl | (simp only [hOf, hset, hpost, if_true, if_false, not_false_eq_true]; first | done | rfl))⟩, trivial⟩
 refine xloop (fb := [5, 8, 11, 14, 26, 29, 36, 1022, 2003, 2022, 2025, 4020, 6017, 6018]) T.ok (Nat.le_of_ble_eq_true rfl) [0, 2, 14] (fun (k : Nat) => [(15, .c (.d (.sc (.int .i64 (k : Nat))))), (3, .ubox [.sc (.int .i64 (refR b f s).1.scope), .sc (.string (refR b f s).1.group), .sc (.string (refR b f s).1.name), .sc (.int .i64 (numR b f (fs1 b f s)).1), .sc (.string (strL (textR b f 40 (fs2 b f s)).1)), .rr 500003 1 k, .sc (.int .i64 0)]), (500003, .gbox 1 ((textsR b f k (fs4 b f s)).1.map strD))]) (fun k => hset (hOf [(t, rdS b f s)]) t (rdS b f (textsR b f k (fs4 b f s)).2)) (fun k => k ≤ fsn b f s) (fun k => fsn b f s - k) 0 (Nat.zero_le _) (x_ent (by first | rfl | (simp only [Tr.get]; simp; done)) (x_ent (by first | rfl | (simp only [Tr.get]; simp; done)) (x_ent (by first | rfl | (simp only [Tr.get]; simp; done)) trivial))) (by simp only [hpost, hset_hset]; first | done | rfl) ?_
 rintro k hk
 have hk5 := textsR_inv (f := f) h4 k
 have hn6 := fsn_le (b := b) (f := f) (s := s)
 have hcn := countR_le (b := b) (f := f) (most := 6) (s := fs3 b f s) (by decide)
 have hfn : ((fsn b f s : Nat) : Int) = (countR b f 6 (fs3 b f s)).1 := by unfold fsn; omega
 refine br (fun hc1 => ?y1) (fun hc1 => ?n1)
 case' y1 =>
  refine And.intro ⟨T.mixed, by decide +kernel⟩ ?_
  refine q_callH T.en_96 (text8_any t ht b f 12 (textsR b f k (fs4 b f s)).2 hb hk5) ?_ ⟨⟨ht, (by first | rfl | (simp only [hOf, hset, hpost, if_true, if_false, not_false_eq_true]; first | done | rfl))⟩, trivial⟩
  refine b_appG (id := 500003) (n := k) (xs := (textsR b f k (fs4 b f s)).1.map strD) (ys := [strD (strL (textR b f 12 (textsR b f k (fs4 b f s)).2).1)]) (zs := (textsR b f (k + 1) (fs4 b f s)).1.map strD) (m := k + 1) (T.ok 26 _ rfl).2.1 rfl rfl rfl (by simp [textsR_len]) (by simp [D.cells, strD]) (by simp only [List.length_cons, List.length_nil]; unfold maxLen; omega) (by simp only [List.length_cons, List.length_nil]; omega) (by rw [textsR]; simp) rfl ?_
  first | refine x_inc ?_ (h := by (omega)) | refine x_add ?_ (h := by first | exact IntWalk.i64_in _ (by (omega)) | rfl) | refine x_bin rfl rfl ?_
  refine x_rnd (k + 1) (by omega) (by (try dsimp only); omega) rfl (x_ent (by first | rfl | (simp only [Tr.get]; simp; done)) (x_ent (by first | rfl | (simp only [Tr.get]; simp; done)) (x_ent (by first | rfl | (simp only [Tr.get]; simp; done)) trivial))) (by simp only [hpost, hset_hset]; first | done | rfl)
 case' n1 =>
  obtain rfl : k = fsn b f s := by omega
  refine x_frU (tv := 3) (id := 500003) (cs' := [.sc (.int .i64 (refR b f s).1.scope), .sc (.string (refR b f s).1.group), .sc (.string (refR b f s).1.name), .sc (.int .i64 (numR b f (fs1 b f s)).1), .sc (.string (strL (textR b f 40 (fs2 b f s)).1)), .row ((textsR b f (fsn b f s) (fs4 b f s)).1.map strD), .sc (.int .i64 0)]) rfl rfl (by simp [frzC, textsR_len]) rfl ?_
  refine x_callH T.en_94 (num_any t ht b f (fs5 b f s) hb h5) ?_ ⟨⟨ht, (by first | rfl | (simp only [hOf, hset, hpost, if_true, if_false, not_false_eq_true]; first | done | rfl))⟩, trivial⟩
  refine x_callR T.en_18 (bad_any t ht b f (fs6 b f s) hb h6) ?_ ⟨⟨ht, (by first | rfl | (simp only [hOf, hset, hpost, if_true, if_false, not_false_eq_true]; first | done | rfl))⟩, trivial⟩
  refine br (fun hg2 => ?y2) (fun hg2 => ?n2)
  case' y2 =>
   refine brT ?_
   have hR : fieldR b f s = (noField, ((fs6 b f s).1, true)) := by unfold fieldR; rw [if_pos (by simp_all)]
   refine x_callH T.en_52 (spoil_any t ht b f (fs6 b f s) hb h6) ?_ ⟨⟨ht, (by first | rfl | (simp only [hOf, hset, hpost, if_true, if_false, not_false_eq_true]; first | done | rfl))⟩, trivial⟩
  case' n2 =>
   refine x_call T.en_79 (fieldRight_any (fieldV b f s) (by have := fieldV_len (b := b) (f := f) (s := s); omega)) ?_
   refine br (fun hc4 => ?y4) (fun hc4 => ?n4)
   case' y4 =>
    have hR : fieldR b f s = (noField, ((fs6 b f s).1, true)) := by unfold fieldR; rw [if_pos (by simp_all)]
    refine x_callH T.en_52 (spoil_any t ht b f (fs6 b f s) hb h6) ?_ ⟨⟨ht, (by first | rfl | (simp only [hOf, hset, hpost, if_true, if_false, not_false_eq_true]; first | done | rfl))⟩, trivial⟩
   case' n4 =>
    have hR : fieldR b f s = (fieldV b f s, fs6 b f s) := by unfold fieldR; rw [if_neg (by simp_all)]
 all_goals (refine ⟨?_, ⟨⟨ht, (by rw [hR]; first | rfl | (rw [hg]; done) | (rw [hg]; simp only [hOf, hset, hpost, if_true, if_false, not_false_eq_true]; first | done | rfl) | (simp only [hOf, hset, hpost, if_true, if_false, not_false_eq_true]; first | done | rfl))⟩, trivial⟩⟩; simp only [fitsL, fits, C.asD, and_true] <;> (rw [hR]; rfl))

set_option maxHeartbeats 1000000 in
theorem getPairs_any (t : Nat) (ht : NAM ≤ t) (b : List UInt8) (f : Int) (s : Nat × Bool) (hb : b.length ≤ 16000000) (hs : s.1 ≤ b.length) : ContractH Tryz.prog 97 [.ptr t 0] [(t, rdS b f s)] [.d (.row ((pairsR b f s).1.map pairD))] [(t, rdS b f (pairsR b f s).2)] := by
 refine T.fnH [8, 13, 15] Tryz.func97 ?_ (by simp only [List.forall_mem_cons, List.not_mem_nil, false_implies, implies_true, and_true]; exact ht) (by simp [thing]) (by simp [thing])
 have hc := countR_inv (f := f) (most := 6) hs
 have hcn := countR_le (b := b) (f := f) (most := 6) (s := s) (by decide)
 refine x_callH T.en_135 (count_any t ht b f 6 s hb hs) ?_ ⟨⟨ht, (by first | rfl | (simp only [hOf, hset, hpost, if_true, if_false, not_false_eq_true]; first | done | rfl))⟩, trivial⟩
 refine xnil 4 500004 119 rfl (by decide) (by decide +kernel) ?_
 refine xloop (fb := [8, 13, 15]) T.ok (Nat.le_of_ble_eq_true rfl) [0, 9] (fun (k : Nat) => [(10, .c (.d (.sc (.int .i64 (k : Nat))))), (4, .c (.own 500004 119 ((pairL b f k (countR b f 6 s).2).1.map pairD)))]) (fun k => hset (hOf [(t, rdS b f s)]) t (rdS b f (pairL b f k (countR b f 6 s).2).2)) (fun k => k ≤ (countR b f 6 s).1.toNat) (fun k => (countR b f 6 s).1.toNat - k) 0 (Nat.zero_le _) (x_ent (by first | rfl | (simp only [Tr.get]; simp; done)) (x_ent (by first | rfl | (simp only [Tr.get]; simp; done)) trivial)) (by simp only [hpost, hset_hset]; first | done | rfl) ?_
 rintro k hk
 have hk5 := pairL_inv (f := f) hc k
 have hk6 := textR_inv (f := f) (most := 12) hk5
 refine br (fun hc1 => ?y1) (fun hc1 => ?n1)
 case' y1 =>
  refine x_callH T.en_96 (text8_any t ht b f 12 (pairL b f k (countR b f 6 s).2).2 hb hk5) ?_ ⟨⟨ht, (by first | rfl | (simp only [hOf, hset, hpost, if_true, if_false, not_false_eq_true]; first | done | rfl))⟩, trivial⟩
  refine x_callH T.en_96 (text8_any t ht b f 12 (textR b f 12 (pairL b f k (countR b f 6 s).2).2).2 hb hk6) ?_ ⟨⟨ht, (by first | rfl | (simp only [hOf, hset, hpost, if_true, if_false, not_false_eq_true]; first | done | rfl))⟩, trivial⟩
  first | refine x_app ?_ (by first | exact pairs_wide | (simp [D.cells, pairD])) (hz := by first | exact pairL_snoc | exact rfl | rfl) (h1 := by unfold maxLen; ((try simp only [List.length_map, pairL_len, List.length_cons, List.length_nil]); omega)) (h2 := by ((try simp only [List.length_map, pairL_len, List.length_cons, List.length_nil]); omega)) | refine x_appN ?_ (by first | exact pairs_wide | (simp [D.cells, pairD])) (h1 := by unfold maxLen; ((try simp only [List.length_map, pairL_len, List.length_cons, List.length_nil]); omega)) (h2 := by ((try simp only [List.length_map, pairL_len, List.length_cons, List.length_nil]); omega))
  first | refine x_inc ?_ (h := by ((try simp only [List.length_map, pairL_len, List.length_cons, List.length_nil]); omega)) | refine x_add ?_ (h := by first | exact IntWalk.i64_in _ (by ((try simp only [List.length_map, pairL_len, List.length_cons, List.length_nil]); omega)) | rfl) | refine x_bin rfl rfl ?_
  refine x_rnd (k + 1) (by omega) (by (try dsimp only); omega) rfl (x_ent (by first | rfl | (simp only [Tr.get]; simp; done)) (x_ent (by first | rfl | (simp only [Tr.get]; simp; done)) trivial)) (by simp only [hpost, hset_hset]; first | done | rfl)
 case' n1 =>
  obtain rfl : k = (countR b f 6 s).1.toNat := by omega
 all_goals (refine ⟨?_, ⟨⟨ht, (by first | rfl | (simp only [hOf, hset, hpost, if_true, if_false, not_false_eq_true]; first | done | rfl))⟩, trivial⟩⟩; simp only [fitsL, fits, C.asD, and_true] <;> (rfl))

set_option maxHeartbeats 1000000 in
theorem lensGet_any (t : Nat) (ht : NAM ≤ t) (b : List UInt8) (f : Int) (s : Nat × Bool) (hb : b.length ≤ 16000000) (hs : s.1 ≤ b.length) : ContractH Tryz.prog 51 [.ptr t 0] [(t, rdS b f s)] [.d (lD (lensR b f s).1)] [(t, rdS b f (lensR b f s).2)] := by
 refine T.fnH [5, 8, 11, 14, 17, 20, 23, 34, 37, 43] Tryz.func51 ?_ (by simp only [List.forall_mem_cons, List.not_mem_nil, false_implies, implies_true, and_true]; exact ht) (by simp [thing]) (by simp [thing])
 have h1 := ls1_inv (f := f) hs
 have h2 := ls2_inv (f := f) hs
 have h3 := ls3_inv (f := f) hs
 have h4 := ls4_inv (f := f) hs
 have h5 := ls5_inv (f := f) hs
 have h6 := ls6_inv (f := f) hs
 have h7 := ls7_inv (f := f) hs
 have h8 := ls8_inv (f := f) hs
 have h9 := fieldR_inv (f := f) h7
 refine x_callH T.en_94 (num_any t ht b f s hb hs) ?_ ⟨⟨ht, (by first | rfl | (simp only [hOf, hset, hpost, if_true, if_false, not_false_eq_true]; first | done | rfl))⟩, trivial⟩
 refine x_callH T.en_95 (ref8_any t ht b f (ls1 b f s) hb h1) ?_ ⟨⟨ht, (by first | rfl | (simp only [hOf, hset, hpost, if_true, if_false, not_false_eq_true]; first | done | rfl))⟩, trivial⟩
 refine x_callH T.en_96 (text8_any t ht b f 12 (ls2 b f s) hb h2) ?_ ⟨⟨ht, (by first | rfl | (simp only [hOf, hset, hpost, if_true, if_false, not_false_eq_true]; first | done | rfl))⟩, trivial⟩
 refine x_callH T.en_96 (text8_any t ht b f 40 (ls3 b f s) hb h3) ?_ ⟨⟨ht, (by first | rfl | (simp only [hOf, hset, hpost, if_true, if_false, not_false_eq_true]; first | done | rfl))⟩, trivial⟩
 refine x_callH T.en_94 (num_any t ht b f (ls4 b f s) hb h4) ?_ ⟨⟨ht, (by first | rfl | (simp only [hOf, hset, hpost, if_true, if_false, not_false_eq_true]; first | done | rfl))⟩, trivial⟩
 refine x_callH T.en_97 (getPairs_any t ht b f (ls5 b f s) hb h5) ?_ ⟨⟨ht, (by first | rfl | (simp only [hOf, hset, hpost, if_true, if_false, not_false_eq_true]; first | done | rfl))⟩, trivial⟩
 refine x_callH T.en_97 (getPairs_any t ht b f (ls6 b f s) hb h6) ?_ ⟨⟨ht, (by first | rfl | (simp only [hOf, hset, hpost, if_true, if_false, not_false_eq_true]; first | done | rfl))⟩, trivial⟩
 refine br (fun hg1 => ?y1) (fun hg1 => ?n1)
 case' y1 =>
  refine brT ?_
  have hk : lsk b f s = 2 ∨ lsk b f s = 3 := by show (numR b f s).1 = 2 ∨ (numR b f s).1 = 3; omega
  have h8e : ls8 b f s = (fieldR b f (ls7 b f s)).2 := by unfold ls8; rw [if_pos hk]
  have hV : lensV b f s = ⟨lsk b f s, (refR b f (ls1 b f s)).1, strL (textR b f 12 (ls2 b f s)).1, strL (textR b f 40 (ls3 b f s)).1, (numR b f (ls4 b f s)).1, (fieldR b f (ls7 b f s)).1, (pairsR b f (ls5 b f s)).1, (pairsR b f (ls6 b f s)).1⟩ := by unfold lensV lsf; rw [if_pos hk]
  refine x_callH T.en_98 (fieldGet_any t ht b f (ls7 b f s) hb h7) ?_ ⟨⟨ht, (by first | rfl | (simp only [hOf, hset, hpost, if_true, if_false, not_false_eq_true]; first | done | rfl))⟩, trivial⟩
  first | refine x_callR T.en_18 (bad_any t ht b f (fieldR b f (ls7 b f s)).2 hb h9) ?_ ⟨⟨ht, (by first | rfl | (simp only [hOf, hset, hpost, if_true, if_false, not_false_eq_true]; first | done | rfl))⟩, trivial⟩ | refine x_callR T.en_18 (bad_any t ht b f (ls7 b f s) hb h7) ?_ ⟨⟨ht, (by first | rfl | (simp only [hOf, hset, hpost, if_true, if_false, not_false_eq_true]; first | done | rfl))⟩, trivial⟩
  refine br (fun hc3 => ?y3) (fun hc3 => ?n3)
  case' y3 =>
   have hR : lensR b f s = (noLens, ls8 b f s) := by unfold lensR; rw [if_pos (by rw [h8e]; assumption)]
   rw [h8e] at hR
  case' n3 =>
   refine x_call T.en_46 (by first | exact lensRight_any ⟨lsk b f s, (refR b f (ls1 b f s)).1, strL (textR b f 12 (ls2 b f s)).1, strL (textR b f 40 (ls3 b f s)).1, (numR b f (ls4 b f s)).1, (fieldR b f (ls7 b f s)).1, (pairsR b f (ls5 b f s)).1, (pairsR b f (ls6 b f s)).1⟩ (by rw [← hV]; exact lensV_ok) | exact lensRight_any ⟨lsk b f s, (refR b f (ls1 b f s)).1, strL (textR b f 12 (ls2 b f s)).1, strL (textR b f 40 (ls3 b f s)).1, (numR b f (ls4 b f s)).1, noField, (pairsR b f (ls5 b f s)).1, (pairsR b f (ls6 b f s)).1⟩ (by rw [← hV]; exact lensV_ok)) ?_
   refine br (fun hc4 => ?y4) (fun hc4 => ?n4)
   case' y4 =>
    have hR : lensR b f s = (noLens, ((ls8 b f s).1, true)) := by unfold lensR; rw [if_neg (by rw [h8e]; simp_all), if_pos (by rw [hV]; assumption)]
    rw [h8e] at hR
    first | refine x_callH T.en_52 (spoil_any t ht b f (fieldR b f (ls7 b f s)).2 hb h9) ?_ ⟨⟨ht, (by first | rfl | (simp only [hOf, hset, hpost, if_true, if_false, not_false_eq_true]; first | done | rfl))⟩, trivial⟩ | refine x_callH T.en_52 (spoil_any t ht b f (ls7 b f s) hb h7) ?_ ⟨⟨ht, (by first | rfl | (simp only [hOf, hset, hpost, if_true, if_false, not_false_eq_true]; first | done | rfl))⟩, trivial⟩
   case' n4 =>
    have hR : lensR b f s = (lensV b f s, ls8 b f s) := by unfold lensR; rw [if_neg (by rw [h8e]; simp_all), if_neg (by rw [hV]; simp_all)]
    rw [h8e, hV] at hR
 case' n1 =>
  refine br (fun hc5 => ?y5) (fun hc5 => ?n5)
  case' y5 =>
   have hk : lsk b f s = 2 ∨ lsk b f s = 3 := by show (numR b f s).1 = 2 ∨ (numR b f s).1 = 3; omega
   have h8e : ls8 b f s = (fieldR b f (ls7 b f s)).2 := by unfold ls8; rw [if_pos hk]
   have hV : lensV b f s = ⟨lsk b f s, (refR b f (ls1 b f s)).1, strL (textR b f 12 (ls2 b f s)).1, strL (textR b f 40 (ls3 b f s)).1, (numR b f (ls4 b f s)).1, (fieldR b f (ls7 b f s)).1, (pairsR b f (ls5 b f s)).1, (pairsR b f (ls6 b f s)).1⟩ := by unfold lensV lsf; rw [if_pos hk]
   refine x_callH T.en_98 (fieldGet_any t ht b f (ls7 b f s) hb h7) ?_ ⟨⟨ht, (by first | rfl | (simp only [hOf, hset, hpost, if_true, if_false, not_false_eq_true]; first | done | rfl))⟩, trivial⟩
   first | refine x_callR T.en_18 (bad_any t ht b f (fieldR b f (ls7 b f s)).2 hb h9) ?_ ⟨⟨ht, (by first | rfl | (simp only [hOf, hset, hpost, if_true, if_false, not_false_eq_true]; first | done | rfl))⟩, trivial⟩ | refine x_callR T.en_18 (bad_any t ht b f (ls7 b f s) hb h7) ?_ ⟨⟨ht, (by first | rfl | (simp only [hOf, hset, hpost, if_true, if_false, not_false_eq_true]; first | done | rfl))⟩, trivial⟩
   refine br (fun hc6 => ?y6) (fun hc6 => ?n6)
   case' y6 =>
    have hR : lensR b f s = (noLens, ls8 b f s) := by unfold lensR; rw [if_pos (by rw [h8e]; assumption)]
    rw [h8e] at hR
   case' n6 =>
    refine x_call T.en_46 (by first | exact lensRight_any ⟨lsk b f s, (refR b f (ls1 b f s)).1, strL (textR b f 12 (ls2 b f s)).1, strL (textR b f 40 (ls3 b f s)).1, (numR b f (ls4 b f s)).1, (fieldR b f (ls7 b f s)).1, (pairsR b f (ls5 b f s)).1, (pairsR b f (ls6 b f s)).1⟩ (by rw [← hV]; exact lensV_ok) | exact lensRight_any ⟨lsk b f s, (refR b f (ls1 b f s)).1, strL (textR b f 12 (ls2 b f s)).1, strL (textR b f 40 (ls3 b f s)).1, (numR b f (ls4 b f s)).1, noField, (pairsR b f (ls5 b f s)).1, (pairsR b f (ls6 b f s)).1⟩ (by rw [← hV]; exact lensV_ok)) ?_
    refine br (fun hc7 => ?y7) (fun hc7 => ?n7)
    case' y7 =>
     have hR : lensR b f s = (noLens, ((ls8 b f s).1, true)) := by unfold lensR; rw [if_neg (by rw [h8e]; simp_all), if_pos (by rw [hV]; assumption)]
     rw [h8e] at hR
     first | refine x_callH T.en_52 (spoil_any t ht b f (fieldR b f (ls7 b f s)).2 hb h9) ?_ ⟨⟨ht, (by first | rfl | (simp only [hOf, hset, hpost, if_true, if_false, not_false_eq_true]; first | done | rfl))⟩, trivial⟩ | refine x_callH T.en_52 (spoil_any t ht b f (ls7 b f s) hb h7) ?_ ⟨⟨ht, (by first | rfl | (simp only [hOf, hset, hpost, if_true, if_false, not_false_eq_true]; first | done | rfl))⟩, trivial⟩
    case' n7 =>
     have hR : lensR b f s = (lensV b f s, ls8 b f s) := by unfold lensR; rw [if_neg (by rw [h8e]; simp_all), if_neg (by rw [hV]; simp_all)]
     rw [h8e, hV] at hR
  case' n5 =>
   have hk : ¬ (lsk b f s = 2 ∨ lsk b f s = 3) := by show ¬ ((numR b f s).1 = 2 ∨ (numR b f s).1 = 3); omega
   have h8e : ls8 b f s = ls7 b f s := by unfold ls8; rw [if_neg hk]
   have hV : lensV b f s = ⟨lsk b f s, (refR b f (ls1 b f s)).1, strL (textR b f 12 (ls2 b f s)).1, strL (textR b f 40 (ls3 b f s)).1, (numR b f (ls4 b f s)).1, noField, (pairsR b f (ls5 b f s)).1, (pairsR b f (ls6 b f s)).1⟩ := by unfold lensV lsf; rw [if_neg hk]
   first | refine x_callR T.en_18 (bad_any t ht b f (fieldR b f (ls7 b f s)).2 hb h9) ?_ ⟨⟨ht, (by first | rfl | (simp only [hOf, hset, hpost, if_true, if_false, not_false_eq_true]; first | done | rfl))⟩, trivial⟩ | refine x_callR T.en_18 (bad_any t ht b f (ls7 b f s) hb h7) ?_ ⟨⟨ht, (by first | rfl | (simp only [hOf, hset, hpost, if_true, if_false, not_false_eq_true]; first | done | rfl))⟩, trivial⟩
   refine br (fun hc8 => ?y8) (fun hc8 => ?n8)
   case' y8 =>
    have hR : lensR b f s = (noLens, ls8 b f s) := by unfold lensR; rw [if_pos (by rw [h8e]; assumption)]
    rw [h8e] at hR
   case' n8 =>
    refine x_call T.en_46 (by first | exact lensRight_any ⟨lsk b f s, (refR b f (ls1 b f s)).1, strL (textR b f 12 (ls2 b f s)).1, strL (textR b f 40 (ls3 b f s)).1, (numR b f (ls4 b f s)).1, (fieldR b f (ls7 b f s)).1, (pairsR b f (ls5 b f s)).1, (pairsR b f (ls6 b f s)).1⟩ (by rw [← hV]; exact lensV_ok) | exact lensRight_any ⟨lsk b f s, (refR b f (ls1 b f s)).1, strL (textR b f 12 (ls2 b f s)).1, strL (textR b f 40 (ls3 b f s)).1, (numR b f (ls4 b f s)).1, noField, (pairsR b f (ls5 b f s)).1, (pairsR b f (ls6 b f s)).1⟩ (by rw [← hV]; exact lensV_ok)) ?_
    refine br (fun hc9 => ?y9) (fun hc9 => ?n9)
    case' y9 =>
     have hR : lensR b f s = (noLens, ((ls8 b f s).1, true)) := by unfold lensR; rw [if_neg (by rw [h8e]; simp_all), if_pos (by rw [hV]; assumption)]
     rw [h8e] at hR
     first | refine x_callH T.en_52 (spoil_any t ht b f (fieldR b f (ls7 b f s)).2 hb h9) ?_ ⟨⟨ht, (by first | rfl | (simp only [hOf, hset, hpost, if_true, if_false, not_false_eq_true]; first | done | rfl))⟩, trivial⟩ | refine x_callH T.en_52 (spoil_any t ht b f (ls7 b f s) hb h7) ?_ ⟨⟨ht, (by first | rfl | (simp only [hOf, hset, hpost, if_true, if_false, not_false_eq_true]; first | done | rfl))⟩, trivial⟩
    case' n9 =>
     have hR : lensR b f s = (lensV b f s, ls8 b f s) := by unfold lensR; rw [if_neg (by rw [h8e]; simp_all), if_neg (by rw [hV]; simp_all)]
     rw [h8e, hV] at hR
 all_goals (refine ⟨?_, ⟨⟨ht, (by rw [hR]; first | rfl | (rw [hg]; done) | (rw [hg]; simp only [hOf, hset, hpost, if_true, if_false, not_false_eq_true]; first | done | rfl) | (simp only [hOf, hset, hpost, if_true, if_false, not_false_eq_true]; first | done | rfl))⟩, trivial⟩⟩; simp only [fitsL, fits, C.asD, and_true] <;> (rw [hR]; rfl))
end Go.Vm
end
section
namespace Go.Vm
open Go.RowKit Go.Proofs
set_option linter.unusedVariables false
set_option linter.unusedSimpArgs false
set_option maxRecDepth 10000

theorem pair_snoc {l : List (ByteArray × ByteArray)} {t u : ByteArray} : l.map pairD ++ [pairD (t, u)] = (l ++ [(t, u)]).map pairD := by simp
theorem fieldO_len {b : List UInt8} {a : Nat} {f : Int} {x : FieldD × Nat} (h : fieldO b a f = some x) : x.1.cases.length ≤ 6 := by
  unfold fieldO at h
  split at h
  · cases h
  split at h
  · cases h
  split at h
  · cases h
  split at h
  · cases h
  rename_i n hn
  have l4 := countO_le hn
  split at h
  · cases h
  rename_i l hl
  split at h
  · cases h
  split at h
  · injection h with h; subst h
    have := (textsO_le l4.2.1 hl).2.2
    show l.1.length ≤ 6
    omega
  · cases h

set_option maxHeartbeats 1000000 in
theorem ref13Get_any (b : List UInt8) (a : Nat) (f : Int) (hb : b.length ≤ 16000000) (ha : a ≤ b.length) : Contract Tryz.prog 108 [.row (byD b), .sc (.int .i64 ((a : Nat))), .sc (.int .i64 (f))] [.d (fD (oF (fieldO b a f))), .d (.sc (.int .i64 (tE (fieldO b a f)))), .d (.sc (.bool ((fieldO b a f).isSome)))] := by
 refine T.fn [2009, 2075, 2099, 2103] Tryz.func108 ?_
 refine x_allocU [] (zI_ok (T.ok 28 _ rfl) rfl) (by simp) (by simp) ?_
 refine x_call T.en_58 (r8get5_any b a f hb ha) ?_
 refine br (fun hc1 => ?y1) (fun hc1 => ?n1)
 case' y1 =>
  have g1 := none_of hc1
  have hT : fieldO b a f = none := by unfold fieldO; rw [g1]
 case' n1 =>
  obtain ⟨r, g1⟩ := some_of hc1
  rw [g1]
  have l1 := refO_le g1
  refine x_call T.en_58 (r8get0_any b r.2 f 0 hb l1.2) ?_
  refine br (fun hc2 => ?y2) (fun hc2 => ?n2)
  case' y2 =>
   have g2 := none_of hc2
   have hT : fieldO b a f = none := by unfold fieldO; rw [g1]; simp only; rw [g2]
  case' n2 =>
   obtain ⟨k, g2⟩ := some_of hc2
   rw [g2]
   have l2 := getN_in (n := k.1) (e := k.2) g2
   refine x_call T.en_58 (r8get1_any b k.2 f 40 hb l2.2.2.1) ?_
   refine br (fun hc3 => ?y3) (fun hc3 => ?n3)
   case' y3 =>
    have g3 := none_of hc3
    have hT : fieldO b a f = none := by unfold fieldO; rw [g1]; simp only; rw [g2]; simp only; rw [g3]
   case' n3 =>
    obtain ⟨dd, g3⟩ := some_of hc3
    rw [g3]
    have l3 := textO_le g3
    refine x_call T.en_58 (r8get6_any b dd.2 f 6 hb l3.2.1) ?_
    refine br (fun hc4 => ?y4) (fun hc4 => ?n4)
    case' y4 =>
     have g4 := none_of hc4
     have hT : fieldO b a f = none := by unfold fieldO; rw [g1]; simp only; rw [g2]; simp only; rw [g3]; simp only; rw [g4]
    case' n4 =>
     obtain ⟨n, g4⟩ := some_of hc4
     rw [g4]
     have l4 := countO_le g4
     refine x_buildU [(5, 500009, 1)] (T.ok 28 _ rfl) (by simp only [List.mem_singleton, forall_eq]; exact ⟨rfl, by decide, by decide⟩) (by simp only [List.mem_singleton, forall_eq]; decide) ?_
     refine xloopR (fb := [2009, 2075, 2099, 2103]) T.ok (Nat.le_of_ble_eq_true rfl) [0, 2, 6, 13, 15] (fun (s : Nat × List ByteArray × Nat) => [(16, .c (.d (.sc (.int .i64 (((s.1 : Nat) : Int)))))), (11, .c (.d (.sc (.int .i64 (((s.2.2 : Nat) : Int)))))), (9, .ubox [.sc (.int .i64 r.1.scope), .sc (.string r.1.group), .sc (.string r.1.name), .sc (.int .i64 0), .sc (.string (strL dd.1)), .rr 500009 1 s.1, .sc (.int .i64 0)]), (500009, .gbox 1 (s.2.1.map strD))]) (fun s => s.1 ≤ n.1.toNat ∧ textsO b f s.1 n.2 = some s.2) (fun s => n.1.toNat - s.1) (0, [], n.2) ⟨Nat.zero_le _, rfl⟩ (x_ent (by first | rfl | (simp only [Tr.get]; simp; done)) (x_ent (by first | rfl | (simp only [Tr.get]; simp; done)) (x_ent (by first | rfl | (simp only [Tr.get]; simp; done)) (x_ent (by first | rfl | (simp only [Tr.get]; simp; done)) trivial)))) ?_
     rintro s ⟨hk, hi⟩
     have hlo := textsO_le l4.2.1 hi
     have hsl := hlo.2.2
     refine br (fun hc5 => ?y5) (fun hc5 => ?n5)
     case' y5 =>
      have hlt : s.1 < n.1.toNat := by have h9 : ((s.1 : Nat) : Int) < n.1 := hc5; omega
      refine x_call T.en_58 (r8get1_any b s.2.2 f 12 hb hlo.2.1) ?_
      refine br (fun hc6 => ?y6) (fun hc6 => ?n6)
      case' y6 =>
       have g5 := none_of hc6
       have gl := textsO_none (textsO_stop hi g5) (show s.1 + 1 ≤ n.1.toNat by omega)
       have hT : fieldO b a f = none := by unfold fieldO; rw [g1]; simp only; rw [g2]; simp only; rw [g3]; simp only; rw [g4]; simp only; rw [gl]
      case' n6 =>
       obtain ⟨t, g5⟩ := some_of hc6
       rw [g5]
       refine x_appG (id := 500009) (n := s.1) (xs := s.2.1.map strD) (ys := [strD (strL t.1)]) (zs := (s.2.1 ++ [strL t.1]).map strD) (m := s.1 + 1) (T.ok 26 _ rfl).2.1 rfl rfl rfl (by simp [hsl]) (by simp [D.cells, strD]) (by simp only [List.length_cons, List.length_nil]; unfold maxLen; omega) (by simp only [List.length_cons, List.length_nil]; omega) (by simp) rfl ?_
       first | refine x_inc ?_ (h := by (omega)) | refine x_add ?_ (h := by first | exact IntWalk.i64_in _ (by (omega)) | rfl) | refine x_bin rfl rfl ?_
       refine x_rnd (s.1 + 1, s.2.1 ++ [strL t.1], t.2) ⟨by (try dsimp only); omega, textsO_next hi g5⟩ (by (try dsimp only); omega) rfl (x_ent (by first | rfl | (simp only [Tr.get]; simp; done)) (x_ent (by first | rfl | (simp only [Tr.get]; simp; done)) (x_ent (by first | rfl | (simp only [Tr.get]; simp; done)) (x_ent (by first | rfl | (simp only [Tr.get]; simp; done)) trivial)))) rfl
     case' n5 =>
      have hge : s.1 = n.1.toNat := by have h9 : ¬ ((s.1 : Nat) : Int) < n.1 := hc5; omega
      rw [hge] at hi
      refine x_frU (tv := 9) (id := 500009) (cs' := [.sc (.int .i64 r.1.scope), .sc (.string r.1.group), .sc (.string r.1.name), .sc (.int .i64 0), .sc (.string (strL dd.1)), .row (s.2.1.map strD), .sc (.int .i64 0)]) rfl rfl (by simp [frzC, hsl]) rfl ?_
      refine x_call T.en_58 (r8get0_any b s.2.2 f 0 hb hlo.2.1) ?_
      refine br (fun hg7 => ?y7) (fun hg7 => ?n7)
      case' y7 =>
       have g6 := none_of hg7
       have hT : fieldO b a f = none := by unfold fieldO; rw [g1]; simp only; rw [g2]; simp only; rw [g3]; simp only; rw [g4]; simp only; rw [hi]; simp only; rw [g6]
       refine brT ?_
       refine brT ?_
      case' n7 =>
       obtain ⟨w, g6⟩ := some_of hg7
       rw [g6]
       have hfo : fieldO b a f = if rightF ⟨r.1, k.1, strL dd.1, s.2.1, w.1⟩ = true then some (⟨r.1, k.1, strL dd.1, s.2.1, w.1⟩, w.2) else none := by unfold fieldO; rw [g1]; simp only; rw [g2]; simp only; rw [g3]; simp only; rw [g4]; simp only; rw [hi]; simp only; rw [g6]
       refine br (fun hg10 => ?y10) (fun hg10 => ?n10)
       case' y10 =>
        refine brT ?_
        have hT : fieldO b a f = none := by rw [hfo, if_neg]; intro e; have h9 : 1 ≤ k.1 ∧ k.1 ≤ 4 := rightF_kind e; have h8 : k.1 < 1 ∨ 4 < k.1 := (by first | exact .inl (by assumption) | exact .inr (by assumption)); omega
       case' n10 =>
        refine br (fun hc12 => ?y12) (fun hc12 => ?n12)
        case' y12 =>
         have hT : fieldO b a f = none := by rw [hfo, if_neg]; intro e; have h9 : 1 ≤ k.1 ∧ k.1 ≤ 4 := rightF_kind e; have h8 : k.1 < 1 ∨ 4 < k.1 := (by first | exact .inl (by assumption) | exact .inr (by assumption)); omega
        case' n12 =>
         refine x_call T.en_86 (refFieldRight_any ⟨r.1, k.1, strL dd.1, s.2.1, w.1⟩ (by show s.2.1.length ≤ 1000000; omega)) ?_
         refine br (fun hc13 => ?y13) (fun hc13 => ?n13)
         case' y13 =>
          have hT : fieldO b a f = none := by rw [hfo, if_neg (by simp_all)]
         case' n13 =>
          have hT : fieldO b a f = some (⟨r.1, k.1, strL dd.1, s.2.1, w.1⟩, w.2) := by rw [hfo, if_pos (by simp_all)]
 all_goals (refine x_ret ?_; simp only [fitsL, fits, C.asD, and_true] <;> (rw [hT]; first | exact ⟨rfl, rfl, rfl⟩ | exact ⟨rfl, rfl, trivial⟩ | exact ⟨rfl, trivial, trivial⟩ | exact ⟨rfl, trivial, rfl⟩))

set_option maxHeartbeats 1000000 in
theorem readPairs_any (b : List UInt8) (a : Nat) (f : Int) (hb : b.length ≤ 16000000) (ha : a ≤ b.length) : Contract Tryz.prog 107 [.row (byD b), .sc (.int .i64 ((a : Nat))), .sc (.int .i64 (f))] [.d (.row ((oP (pairsO b a f)).map pairD)), .d (.sc (.int .i64 (tE (pairsO b a f)))), .d (.sc (.bool ((pairsO b a f).isSome)))] := by
 refine T.fn [] Tryz.func107 ?_
 refine x_call T.en_58 (r8get6_any b a f 6 hb ha) ?_
 refine br (fun hc1 => ?y1) (fun hc1 => ?n1)
 case' y1 =>
  have g1 := none_of hc1
  have hT : pairsO b a f = none := by unfold pairsO; rw [g1]
 case' n1 =>
  obtain ⟨n, g4⟩ := some_of hc1
  rw [g4]
  have l4 := countO_le g4
  refine xloopR (fb := []) T.ok (Nat.le_of_ble_eq_true rfl) [0, 2, 9] (fun (s : Nat × List (ByteArray × ByteArray) × Nat) => [(13, .c (.d (.sc (.int .i64 (((s.1 : Nat) : Int)))))), (10, .c (.d (.sc (.int .i64 (((s.2.2 : Nat) : Int)))))), (12, .c (.own 31 119 ((Prod.fst (Prod.snd s)).map pairD)))]) (fun s => s.1 ≤ n.1.toNat ∧ pairLO b f s.1 n.2 = some s.2) (fun s => n.1.toNat - s.1) (0, [], n.2) ⟨Nat.zero_le _, rfl⟩ (x_ent (by first | rfl | (simp only [Tr.get]; simp; done)) (x_ent (by first | rfl | (simp only [Tr.get]; simp; done)) (x_ent (by first | rfl | (simp only [Tr.get]; simp; done)) trivial))) ?_
  rintro s ⟨hk, hi⟩
  have hlo := pairLO_le l4.2.1 hi
  have hsl := hlo.2.2
  refine br (fun hc2 => ?y2) (fun hc2 => ?n2)
  case' y2 =>
   have hlt : s.1 < n.1.toNat := by have h9 : ((s.1 : Nat) : Int) < n.1 := hc2; omega
   refine x_call T.en_58 (r8get1_any b s.2.2 f 12 hb hlo.2.1) ?_
   refine br (fun hc3 => ?y3) (fun hc3 => ?n3)
   case' y3 =>
    have g5 := none_of hc3
    have gl := pairLO_none (pairLO_stop hi g5) (show s.1 + 1 ≤ n.1.toNat by omega)
    have hT : pairsO b a f = none := by unfold pairsO; rw [g4]; simp only; rw [gl]
   case' n3 =>
    obtain ⟨t, g5⟩ := some_of hc3
    rw [g5]
    have l5 := textO_le g5
    refine x_call T.en_58 (r8get1_any b t.2 f 12 hb l5.2.1) ?_
    refine br (fun hc4 => ?y4) (fun hc4 => ?n4)
    case' y4 =>
     have g6 := none_of hc4
     have gl := pairLO_none (pairLO_stop2 hi g5 g6) (show s.1 + 1 ≤ n.1.toNat by omega)
     have hT : pairsO b a f = none := by unfold pairsO; rw [g4]; simp only; rw [gl]
    case' n4 =>
     obtain ⟨u, g6⟩ := some_of hc4
     rw [g6]
     first | refine x_app ?_ (by first | exact pairs_wide | (simp [D.cells, pairD])) (hz := by first | exact pair_snoc | exact rfl | rfl) (h1 := by unfold maxLen; ((try simp only [List.length_map, List.length_cons, List.length_nil]); omega)) (h2 := by ((try simp only [List.length_map, List.length_cons, List.length_nil]); omega)) | refine x_appN ?_ (by first | exact pairs_wide | (simp [D.cells, pairD])) (h1 := by unfold maxLen; ((try simp only [List.length_map, List.length_cons, List.length_nil]); omega)) (h2 := by ((try simp only [List.length_map, List.length_cons, List.length_nil]); omega))
     first | refine x_inc ?_ (h := by ((try simp only [List.length_map, List.length_cons, List.length_nil]); omega)) | refine x_add ?_ (h := by first | exact IntWalk.i64_in _ (by ((try simp only [List.length_map, List.length_cons, List.length_nil]); omega)) | rfl) | refine x_bin rfl rfl ?_
     refine x_rnd (s.1 + 1, s.2.1 ++ [(strL t.1, strL u.1)], u.2) ⟨by (try dsimp only); omega, pairLO_next hi g5 g6⟩ (by (try dsimp only); omega) rfl (x_ent (by first | rfl | (simp only [Tr.get]; simp; done)) (x_ent (by first | rfl | (simp only [Tr.get]; simp; done)) (x_ent (by first | rfl | (simp only [Tr.get]; simp; done)) trivial))) rfl
  case' n2 =>
   have hge : s.1 = n.1.toNat := by have h9 : ¬ ((s.1 : Nat) : Int) < n.1 := hc2; omega
   rw [hge] at hi
   have hT : pairsO b a f = some s.2 := by unfold pairsO; rw [g4]; simp only; rw [hi]
 all_goals (refine x_ret ?_; simp only [fitsL, fits, C.asD, and_true] <;> (rw [hT]; first | exact ⟨rfl, rfl, rfl⟩ | exact ⟨rfl, rfl, trivial⟩ | exact ⟨rfl, trivial, trivial⟩ | exact ⟨rfl, trivial, rfl⟩))

set_option maxHeartbeats 1000000 in
theorem ref15Get_any (b : List UInt8) (a : Nat) (f : Int) (hb : b.length ≤ 16000000) (ha : a ≤ b.length) : Contract Tryz.prog 59 [.row (byD b), .sc (.int .i64 ((a : Nat))), .sc (.int .i64 (f))] [.d (lD (oL (lensO b a f))), .d (.sc (.int .i64 (tE (lensO b a f)))), .d (.sc (.bool ((lensO b a f).isSome)))] := by
 refine T.fn [] Tryz.func59 ?_
 refine x_call T.en_58 (r8get6_any b a f 10 hb ha) ?_
 refine br (fun hc1 => ?y1) (fun hc1 => ?n1)
 case' y1 =>
  have g1 := none_of hc1
  have hT : lensO b a f = none := by unfold lensO; rw [g1]
 case' n1 =>
  obtain ⟨k, g1⟩ := some_of hc1
  rw [g1]
  have l1 := countO_le g1
  refine x_call T.en_58 (r8get5_any b k.2 f hb l1.2.1) ?_
  refine br (fun hc2 => ?y2) (fun hc2 => ?n2)
  case' y2 =>
   have g2 := none_of hc2
   have hT : lensO b a f = none := by unfold lensO; rw [g1]; simp only; rw [g2]
  case' n2 =>
   obtain ⟨r, g2⟩ := some_of hc2
   rw [g2]
   have l2 := refO_le g2
   refine x_call T.en_58 (r8get1_any b r.2 f 12 hb l2.2) ?_
   refine br (fun hc3 => ?y3) (fun hc3 => ?n3)
   case' y3 =>
    have g3 := none_of hc3
    have hT : lensO b a f = none := by unfold lensO; rw [g1]; simp only; rw [g2]; simp only; rw [g3]
   case' n3 =>
    obtain ⟨nn, g3⟩ := some_of hc3
    rw [g3]
    have l3 := textO_le g3
    refine x_call T.en_58 (r8get1_any b nn.2 f 40 hb l3.2.1) ?_
    refine br (fun hc4 => ?y4) (fun hc4 => ?n4)
    case' y4 =>
     have g4 := none_of hc4
     have hT : lensO b a f = none := by unfold lensO; rw [g1]; simp only; rw [g2]; simp only; rw [g3]; simp only; rw [g4]
    case' n4 =>
     obtain ⟨oo, g4⟩ := some_of hc4
     rw [g4]
     have l4 := textO_le g4
     refine x_call T.en_58 (r8get0_any b oo.2 f 0 hb l4.2.1) ?_
     refine br (fun hc5 => ?y5) (fun hc5 => ?n5)
     case' y5 =>
      have g5 := none_of hc5
      have hT : lensO b a f = none := by unfold lensO; rw [g1]; simp only; rw [g2]; simp only; rw [g3]; simp only; rw [g4]; simp only; rw [g5]
     case' n5 =>
      obtain ⟨xx, g5⟩ := some_of hc5
      rw [g5]
      have l5 := getN_in (n := xx.1) (e := xx.2) g5
      refine x_call T.en_107 (readPairs_any b xx.2 f hb l5.2.2.1) ?_
      refine br (fun hc6 => ?y6) (fun hc6 => ?n6)
      case' y6 =>
       have g6 := none_of hc6
       have hT : lensO b a f = none := by unfold lensO; rw [g1]; simp only; rw [g2]; simp only; rw [g3]; simp only; rw [g4]; simp only; rw [g5]; simp only; rw [g6]
      case' n6 =>
       obtain ⟨pp, g6⟩ := some_of hc6
       rw [g6]
       have l6 := pairsO_le g6
       refine x_call T.en_107 (readPairs_any b pp.2 f hb l6.2.1) ?_
       refine br (fun hc7 => ?y7) (fun hc7 => ?n7)
       case' y7 =>
        have g7 := none_of hc7
        have hT : lensO b a f = none := by unfold lensO; rw [g1]; simp only; rw [g2]; simp only; rw [g3]; simp only; rw [g4]; simp only; rw [g5]; simp only; rw [g6]; simp only; rw [g7]
       case' n7 =>
        obtain ⟨qq, g7⟩ := some_of hc7
        rw [g7]
        have l7 := pairsO_le g7
        refine br (fun hg8 => ?y8) (fun hg8 => ?n8)
        case' y8 =>
         refine brT ?_
         have hkk : k.1 = 2 ∨ k.1 = 3 := by first | exact .inl (by assumption) | exact .inr (by assumption)
         refine x_call T.en_108 (ref13Get_any b qq.2 f hb l7.2.1) ?_
         refine br (fun hc10 => ?y10) (fun hc10 => ?n10)
         case' y10 =>
          have g8 := none_of hc10
          have hT : lensO b a f = none := by unfold lensO; rw [g1]; simp only; rw [g2]; simp only; rw [g3]; simp only; rw [g4]; simp only; rw [g5]; simp only; rw [g6]; simp only; rw [g7]; simp only; rw [if_pos hkk, g8]
         case' n10 =>
          obtain ⟨d8, g8⟩ := some_of hc10
          rw [g8]
          have hlo : lensO b a f = if rightL ⟨k.1, r.1, strL nn.1, strL oo.1, xx.1, d8.1, pp.1, qq.1⟩ = true then some (⟨k.1, r.1, strL nn.1, strL oo.1, xx.1, d8.1, pp.1, qq.1⟩, d8.2) else none := by unfold lensO; rw [g1]; simp only; rw [g2]; simp only; rw [g3]; simp only; rw [g4]; simp only; rw [g5]; simp only; rw [g6]; simp only; rw [g7]; simp only; rw [if_pos hkk, g8]
          have hx0 : okX ⟨k.1, r.1, strL nn.1, strL oo.1, xx.1, d8.1, pp.1, qq.1⟩ := ⟨by show d8.1.cases.length ≤ 1000000; have := fieldO_len g8; omega, by show pp.1.length ≤ 1000; omega, by show qq.1.length ≤ 1000; omega⟩
          refine x_call T.en_48 (refLensRight_any _ hx0) ?_
          refine br (fun hc11 => ?y11) (fun hc11 => ?n11)
          case' y11 =>
           have hT : lensO b a f = none := by rw [hlo, if_neg (by simp_all)]
          case' n11 =>
           have hT : lensO b a f = some (⟨k.1, r.1, strL nn.1, strL oo.1, xx.1, d8.1, pp.1, qq.1⟩, d8.2) := by rw [hlo, if_pos (by simp_all)]
        case' n8 =>
         refine br (fun hc12 => ?y12) (fun hc12 => ?n12)
         case' y12 =>
          have hkk : k.1 = 2 ∨ k.1 = 3 := by first | exact .inl (by assumption) | exact .inr (by assumption)
          refine x_call T.en_108 (ref13Get_any b qq.2 f hb l7.2.1) ?_
          refine br (fun hc13 => ?y13) (fun hc13 => ?n13)
          case' y13 =>
           have g8 := none_of hc13
           have hT : lensO b a f = none := by unfold lensO; rw [g1]; simp only; rw [g2]; simp only; rw [g3]; simp only; rw [g4]; simp only; rw [g5]; simp only; rw [g6]; simp only; rw [g7]; simp only; rw [if_pos hkk, g8]
          case' n13 =>
           obtain ⟨d8, g8⟩ := some_of hc13
           rw [g8]
           have hlo : lensO b a f = if rightL ⟨k.1, r.1, strL nn.1, strL oo.1, xx.1, d8.1, pp.1, qq.1⟩ = true then some (⟨k.1, r.1, strL nn.1, strL oo.1, xx.1, d8.1, pp.1, qq.1⟩, d8.2) else none := by unfold lensO; rw [g1]; simp only; rw [g2]; simp only; rw [g3]; simp only; rw [g4]; simp only; rw [g5]; simp only; rw [g6]; simp only; rw [g7]; simp only; rw [if_pos hkk, g8]
           have hx0 : okX ⟨k.1, r.1, strL nn.1, strL oo.1, xx.1, d8.1, pp.1, qq.1⟩ := ⟨by show d8.1.cases.length ≤ 1000000; have := fieldO_len g8; omega, by show pp.1.length ≤ 1000; omega, by show qq.1.length ≤ 1000; omega⟩
           refine x_call T.en_48 (refLensRight_any _ hx0) ?_
           refine br (fun hc14 => ?y14) (fun hc14 => ?n14)
           case' y14 =>
            have hT : lensO b a f = none := by rw [hlo, if_neg (by simp_all)]
           case' n14 =>
            have hT : lensO b a f = some (⟨k.1, r.1, strL nn.1, strL oo.1, xx.1, d8.1, pp.1, qq.1⟩, d8.2) := by rw [hlo, if_pos (by simp_all)]
         case' n12 =>
          have hkk : ¬ (k.1 = 2 ∨ k.1 = 3) := by rintro (e | e) <;> contradiction
          have hlo : lensO b a f = if rightL ⟨k.1, r.1, strL nn.1, strL oo.1, xx.1, noField, pp.1, qq.1⟩ = true then some (⟨k.1, r.1, strL nn.1, strL oo.1, xx.1, noField, pp.1, qq.1⟩, qq.2) else none := by unfold lensO; rw [g1]; simp only; rw [g2]; simp only; rw [g3]; simp only; rw [g4]; simp only; rw [g5]; simp only; rw [g6]; simp only; rw [g7]; simp only; rw [if_neg hkk]
          have hx0 : okX ⟨k.1, r.1, strL nn.1, strL oo.1, xx.1, noField, pp.1, qq.1⟩ := ⟨by show (0 : Nat) ≤ 1000000; decide, by show pp.1.length ≤ 1000; omega, by show qq.1.length ≤ 1000; omega⟩
          refine x_call T.en_48 (refLensRight_any _ hx0) ?_
          refine br (fun hc15 => ?y15) (fun hc15 => ?n15)
          case' y15 =>
           have hT : lensO b a f = none := by rw [hlo, if_neg (by simp_all)]
          case' n15 =>
           have hT : lensO b a f = some (⟨k.1, r.1, strL nn.1, strL oo.1, xx.1, noField, pp.1, qq.1⟩, qq.2) := by rw [hlo, if_pos (by simp_all)]
 all_goals (refine x_ret ?_; simp only [fitsL, fits, C.asD, and_true] <;> (rw [hT]; first | exact ⟨rfl, rfl, rfl⟩ | exact ⟨rfl, rfl, trivial⟩ | exact ⟨rfl, trivial, trivial⟩ | exact ⟨rfl, trivial, rfl⟩))
end Go.Vm
end
section
namespace Go.Vm
open Go.RowKit Go.Proofs
set_option linter.unusedVariables false
set_option linter.unusedSimpArgs false
set_option maxRecDepth 10000
theorem v_23 (x : TagD) : conc (tD x) = some (.agg #[.int .i64 x.r, .int .i64 x.n]) := rfl
theorem rune_23 (r s : TagD) (x y : Operand) (w : World) : (do eqGuard .eql 23 x y (.agg #[.int .i64 r.r, .int .i64 r.n]) (.agg #[.int .i64 s.r, .int .i64 s.n]); binOp .eql 23 (.agg #[.int .i64 r.r, .int .i64 r.n]) (.agg #[.int .i64 s.r, .int .i64 s.n]) : Sem Value).run Tryz.prog w = .ok (.bool (decide (r = s))) w := by
  obtain ⟨a, b⟩ := r
  obtain ⟨a', b'⟩ := s
  simp [go_sem, eq_strs]
  repeat (first | (split <;> simp_all; done) | split)
  all_goals simp_all
theorem xeq_23e {x y : Operand} {K : Value → Prop} (r s : TagD) (hK : K (.bool (decide (r = s)))) : ∃ u v r', (conc (tD r) = some u ∧ conc (tD s) = some v) ∧ (∀ w, (do eqGuard .eql 23 x y u v; binOp .eql 23 u v : Sem Value).run Tryz.prog w = .ok r' w) ∧ plainV r' = true ∧ K r' := x_eqS (v_23 r) (v_23 s) (fun w => rune_23 r s x y w) rfl hK
theorem runn_23 (r s : TagD) (x y : Operand) (w : World) : (do eqGuard .neq 23 x y (.agg #[.int .i64 r.r, .int .i64 r.n]) (.agg #[.int .i64 s.r, .int .i64 s.n]); binOp .neq 23 (.agg #[.int .i64 r.r, .int .i64 r.n]) (.agg #[.int .i64 s.r, .int .i64 s.n]) : Sem Value).run Tryz.prog w = .ok (.bool (!decide (r = s))) w := by
  obtain ⟨a, b⟩ := r
  obtain ⟨a', b'⟩ := s
  simp [go_sem, eq_strs]
  repeat (first | (split <;> simp_all; done) | split)
  all_goals simp_all
theorem xeq_23n {x y : Operand} {K : Value → Prop} (r s : TagD) (hK : K (.bool (!decide (r = s)))) : ∃ u v r', (conc (tD r) = some u ∧ conc (tD s) = some v) ∧ (∀ w, (do eqGuard .neq 23 x y u v; binOp .neq 23 u v : Sem Value).run Tryz.prog w = .ok r' w) ∧ plainV r' = true ∧ K r' := x_eqS (v_23 r) (v_23 s) (fun w => runn_23 r s x y w) rfl hK
theorem tag_rep {ro : Roles} {w : World} {v : Value} {t : TagD} (h : Rep ro w v (tD t)) : v = .agg #[.int .i64 t.r, .int .i64 t.n] := rep_conc h (v_23 t)
theorem tag_check (b : Bool) (t : TagD) (w : World) : (Instr.checkKey b 10000 23 (.agg #[.int .i64 t.r, .int .i64 t.n])).run Tryz.prog w = .ok () w := pureRun_run (by rfl) w
theorem tag_eql (r s : TagD) (w : World) : (binOp .eql 23 (.agg #[.int .i64 r.r, .int .i64 r.n]) (.agg #[.int .i64 s.r, .int .i64 s.n])).run Tryz.prog w = .ok (.bool (decide (r = s))) w := by
  obtain ⟨a, b⟩ := r
  obtain ⟨a', b'⟩ := s
  simp [go_sem]
  repeat (first | (split <;> simp_all; done) | split)
  all_goals simp_all
theorem tag_equal (r s : TagD) (w : World) : (Op.equal 23 (.agg #[.int .i64 r.r, .int .i64 r.n]) (.agg #[.int .i64 s.r, .int .i64 s.n])).run Tryz.prog w = .ok (decide (r = s)) w := by
  have h := tag_eql r s w
  change (Op.equal 23 _ _ >>= fun r => pure (Value.bool r)).run Tryz.prog w = _ at h
  rw [Sem.run_bind] at h
  cases hq : (Op.equal 23 (.agg #[.int .i64 r.r, .int .i64 r.n]) (.agg #[.int .i64 s.r, .int .i64 s.n])).run Tryz.prog w with
  | ok b w1 =>
    rw [hq] at h
    simp only [Result.andThen_ok, Sem.run_pure, Result.ok.injEq, Value.bool.injEq] at h
    rw [h.1, h.2]
  | halt e w1 => rw [hq] at h; cases h
theorem tagKey : KeyOk Tryz.prog 23 (fun d => ∃ t : TagD, d = tD t) where
  kind := ⟨_, Tryz.underlying23⟩
  check := by rintro ro w v d b ⟨t, rfl⟩ h; rw [tag_rep h]; exact tag_check b t w
  same := by
    rintro ro w v u d e ⟨t, rfl⟩ ⟨s, rfl⟩ h k
    rw [tag_rep h, tag_rep k]
    exact ⟨_, tag_equal t s w, by rw [decide_eq_true_eq]; exact ⟨fun e => by rw [e], tD_inj⟩⟩
  bits := by rintro ro w v u d ⟨t, rfl⟩ h k; rw [tag_rep h, tag_rep k]; simp [Instr.sameBits]
theorem zeroNode : zeroD Tryz.prog 106 = some (nD noNode) := by kernel_rfl

end Go.Vm
end
section
namespace Go.Vm
open Go.RowKit Go.Proofs
set_option linter.unusedVariables false
set_option linter.unusedSimpArgs false
set_option maxRecDepth 10000

set_option maxHeartbeats 1000000 in
theorem tag_any (t : TagD) : Contract Tryz.prog 44 [tD t] [.d (.sc (.bool (tagB t)))] := by
 refine T.fn [] Tryz.func44 ?_
 refine br (fun hg1 => ?y1) (fun hg1 => ?n1)
 case' y1 =>
  refine br (fun hg2 => ?y2) (fun hg2 => ?n2)
  case' y2 =>
   refine br (fun hg3 => ?y3) (fun hg3 => ?n3)
  case' n2 =>
   refine brF ?_
 case' n1 =>
  refine brF ?_
  refine brF ?_
 all_goals (refine x_ret ?_; simp only [fitsL, fits, C.asD, and_true] <;> (refine scb ?_; unfold tagB; first | (simp_all; done) | (simp_all; omega) | (rw [Bool.eq_iff_iff]; simp_all <;> omega)))

set_option maxHeartbeats 1000000 in
theorem refTag_any (t : TagD) : Contract Tryz.prog 47 [tD t] [.d (.sc (.bool (tagB t)))] := by
 refine T.fn [] Tryz.func47 ?_
 refine br (fun hg1 => ?y1) (fun hg1 => ?n1)
 case' y1 =>
  refine br (fun hg2 => ?y2) (fun hg2 => ?n2)
  case' y2 =>
   refine br (fun hg3 => ?y3) (fun hg3 => ?n3)
  case' n2 =>
   refine brF ?_
 case' n1 =>
  refine brF ?_
  refine brF ?_
 all_goals (refine x_ret ?_; simp only [fitsL, fits, C.asD, and_true] <;> (refine scb ?_; unfold tagB; first | (simp_all; done) | (simp_all; omega) | (rw [Bool.eq_iff_iff]; simp_all <;> omega)))

set_option maxHeartbeats 1000000 in
theorem less_tag (a b : TagD) : Contract Tryz.prog 124 [tD a, tD b] [.d (.sc (.bool (lessT a b)))] := by
 refine T.fn [] Tryz.func124 ?_
 refine br (fun hc1 => ?y1) (fun hc1 => ?n1)
 all_goals (refine x_ret ?_; simp only [fitsL, fits, C.asD, and_true] <;> (refine scb ?_; unfold lessT; first | (simp_all; done) | (rw [Bool.eq_iff_iff]; (split <;> simp_all) <;> omega) | (simp_all <;> omega)))

set_option maxHeartbeats 1000000 in
theorem refLess_tag (a b : TagD) : Contract Tryz.prog 69 [tD a, tD b] [.d (.sc (.bool (lessT a b)))] := by
 refine T.fn [] Tryz.func69 ?_
 refine br (fun hg1 => ?y1) (fun hg1 => ?n1)
 case' n1 =>
  refine br (fun hg2 => ?y2) (fun hg2 => ?n2)
 all_goals (refine x_ret ?_; simp only [fitsL, fits, C.asD, and_true] <;> (refine scb ?_; unfold lessT; first | (simp_all; done) | (rw [Bool.eq_iff_iff]; (split <;> simp_all) <;> omega) | (simp_all <;> omega)))

set_option maxHeartbeats 1000000 in
theorem root_any  : Contract Tryz.prog 45 [] [.d (tD noTag)] := by
 refine T.fn [] Tryz.func45 ?_
 all_goals (refine x_ret ?_; simp only [fitsL, fits, C.asD, and_true] <;> (rfl))
end Go.Vm
end
section
namespace Go.Vm
open Go.RowKit Go.Proofs
set_option linter.unusedVariables false
set_option linter.unusedSimpArgs false
set_option maxRecDepth 10000

set_option maxHeartbeats 1000000 in
theorem edge_any (e : EdgeD) (he : okX e.lens) : Contract Tryz.prog 9 [eD e] [.d (.sc (.bool (edgeB e)))] := by
 refine T.fn [] Tryz.func9 ?_
 refine x_call T.en_44 (tag_any _) ?_
 refine br (fun hc1 => ?y1) (fun hc1 => ?n1)
 case' n1 =>
  refine And.intro ⟨T.mixed, by decide +kernel⟩ ?_
  refine x_call T.en_45 (root_any) ?_
  first | refine xeq_23n _ _ ?_ | refine xeq_23n _ noTag ?_ | refine xeq_23n noTag _ ?_
  refine br (fun hg2 => ?y2) (fun hg2 => ?n2)
  case' y2 =>
   refine x_call T.en_44 (tag_any _) ?_
   refine br (fun hg3 => ?y3) (fun hg3 => ?n3)
   case' y3 =>
    refine brT ?_
   case' n3 =>
    first | refine xeq_23e _ _ ?_ | refine xeq_23e _ noTag ?_ | refine xeq_23e noTag _ ?_
    refine br (fun hc5 => ?y5) (fun hc5 => ?n5)
    case' n5 =>
     refine br (fun hg6 => ?y6) (fun hg6 => ?n6)
     case' y6 =>
      refine br (fun hg7 => ?y7) (fun hg7 => ?n7)
      case' y7 =>
       refine x_call T.en_46 (lensRight_any _ he) ?_
     case' n6 =>
      refine brF ?_
  case' n2 =>
   refine brF ?_
   refine br (fun hg10 => ?y10) (fun hg10 => ?n10)
   case' y10 =>
    refine br (fun hg11 => ?y11) (fun hg11 => ?n11)
    case' y11 =>
     refine x_call T.en_46 (lensRight_any _ he) ?_
   case' n10 =>
    refine brF ?_
 all_goals (refine x_ret ?_; simp only [fitsL, fits, C.asD, and_true] <;> (refine scb ?_; unfold edgeB; first | (simp_all; done) | (rw [Bool.eq_iff_iff]; simp_all <;> omega)))

set_option maxHeartbeats 1000000 in
theorem same_any (e f : EdgeD) (he : okX e.lens) : Contract Tryz.prog 11 [eD e, eD f] [.d (.sc (.bool (decide (e = f))))] := by
 refine T.fn [] Tryz.func11 ?_
 first | refine xeq_23e _ _ ?_ | refine xeq_23e _ noTag ?_ | refine xeq_23e noTag _ ?_
 refine br (fun hg1 => ?y1) (fun hg1 => ?n1)
 case' y1 =>
  first | refine xeq_23e _ _ ?_ | refine xeq_23e _ noTag ?_ | refine xeq_23e noTag _ ?_
  refine br (fun hg2 => ?y2) (fun hg2 => ?n2)
  case' y2 =>
   refine x_call T.en_49 (lensSame_any _ _ he) ?_
 case' n1 =>
  refine brF ?_
 all_goals (refine x_ret ?_; simp only [fitsL, fits, C.asD, and_true] <;> (refine scb ?_; clear he; cases e; cases f; simp_all))

set_option maxHeartbeats 1000000 in
theorem own_any (e : EdgeD) (he : okX e.lens) : Contract Tryz.prog 66 [eD e] [.d (eD e)] := by
 refine T.fn [] Tryz.func66 ?_
 refine And.intro ⟨T.mixed, by decide +kernel⟩ ?_
 refine x_call T.en_121 (lensOwn_any _ he) ?_
 all_goals (refine x_ret ?_; simp only [fitsL, fits, C.asD, and_true] <;> (rfl))
end Go.Vm
end
section
namespace Go.Vm
set_option linter.unusedVariables false
set_option linter.unusedSimpArgs false

theorem lessT_irrefl (a : TagD) : lessT a a = false := by simp [lessT]
theorem lessT_trans {a b c : TagD} (h : lessT a b = true) (k : lessT b c = true) : lessT a c = true := by
  obtain ⟨a1, a2⟩ := a; obtain ⟨b1, b2⟩ := b; obtain ⟨c1, c2⟩ := c
  simp only [lessT] at h k ⊢
  split at h <;> split at k <;> simp only [decide_eq_true_eq] at h k <;> split <;> simp only [decide_eq_true_eq] <;> omega
theorem lessT_total {a b : TagD} (h : lessT a b = false) (k : lessT b a = false) : a = b := by
  obtain ⟨a1, a2⟩ := a; obtain ⟨b1, b2⟩ := b
  simp only [lessT] at h k
  split at h <;> split at k <;> simp only [decide_eq_false_iff_not] at h k <;> simp only [TagD.mk.injEq] <;> omega
theorem lessT_asymm {a b : TagD} (h : lessT a b = true) : lessT b a = false := by
  cases k : lessT b a with
  | false => rfl
  | true => have := lessT_trans h k; rw [lessT_irrefl] at this; cases this
theorem lessT_ntrans {a b c : TagD} (h : lessT a b = false) (k : lessT b c = false) : lessT a c = false := by
  cases hx : lessT a c with
  | false => rfl
  | true =>
    cases h1 : lessT b a with
    | true => have := lessT_trans h1 hx; rw [k] at this; cases this
    | false => obtain rfl := lessT_total h h1; rw [k] at hx; cases hx
def leT (a b : TagD) : Bool := !lessT b a
theorem leT_trans (a b c : TagD) (h : leT a b = true) (k : leT b c = true) : leT a c = true := by
  simp only [leT, Bool.not_eq_true'] at *; exact lessT_ntrans k h
theorem leT_total (a b : TagD) : (leT a b || leT b a) = true := by
  simp only [leT]
  cases h : lessT b a with
  | false => rfl
  | true => rw [lessT_asymm h]; rfl
theorem leT_anti {a b : TagD} (h : leT a b = true) (k : leT b a = true) : a = b := by
  simp only [leT, Bool.not_eq_true'] at *; exact lessT_total k h
/-- Rising tags. -/
def sortT (l : List TagD) : List TagD := l.mergeSort leT
theorem sortT_rises (l : List TagD) : (sortT l).Pairwise fun a b => leT a b = true := List.pairwise_mergeSort leT_trans leT_total l
theorem sortT_perm (l : List TagD) : (sortT l).Perm l := List.mergeSort_perm l leT
theorem rises_one {l l' : List TagD} (h : l.Pairwise fun a b => leT a b = true) (k : l'.Pairwise fun a b => leT a b = true) (hp : l.Perm l') : l = l' :=
  List.Perm.eq_of_pairwise (fun _ _ _ _ h k => leT_anti h k) h k hp
theorem sortT_eq {l l' : List TagD} (h : l.Perm l') : sortT l = sortT l' := rises_one (sortT_rises l) (sortT_rises l') ((sortT_perm l).trans (h.trans (sortT_perm l').symm))
theorem sortT_len (l : List TagD) : (sortT l).length = l.length := (sortT_perm l).length_eq

/-- An edge put where it belongs. -/
def insE (e : EdgeD) : List EdgeD → List EdgeD
  | [] => [e]
  | x :: l => if lessT x.id e.id = true then x :: insE e l else e :: x :: l
def sortE (E : List EdgeD) : List EdgeD := E.foldl (fun l e => insE e l) []
theorem insE_perm (e : EdgeD) : ∀ l, (insE e l).Perm (e :: l)
  | [] => .refl _
  | x :: l => by
    unfold insE
    split
    · exact ((insE_perm e l).cons x).trans (List.Perm.swap e x l)
    · exact .refl _
abbrev risesE (l : List EdgeD) : Prop := l.Pairwise fun a b => leT a.id b.id = true
theorem insE_rises (e : EdgeD) : ∀ {l}, risesE l → risesE (insE e l)
  | [], _ => by simp [insE]
  | x :: l, h => by
    unfold insE
    obtain ⟨h1, h2⟩ := List.pairwise_cons.1 h
    split
    · rename_i hlt
      refine List.pairwise_cons.2 ⟨fun y hy => ?_, insE_rises e h2⟩
      rcases List.mem_cons.1 ((insE_perm e l).mem_iff.1 hy) with rfl | hy
      · simp only [leT]; rw [lessT_asymm hlt]; rfl
      · exact h1 y hy
    · rename_i hlt
      have hle : leT e.id x.id = true := by simp only [leT]; simpa using hlt
      refine List.pairwise_cons.2 ⟨fun y hy => ?_, h⟩
      rcases List.mem_cons.1 hy with rfl | hy
      · exact hle
      · exact leT_trans _ _ _ hle (h1 y hy)
theorem sortE_go (E : List EdgeD) : ∀ l, risesE l → risesE (E.foldl (fun l e => insE e l) l) ∧ (E.foldl (fun l e => insE e l) l).Perm (l ++ E) := by
  induction E with
  | nil => intro l h; exact ⟨h, by simp⟩
  | cons e E ih =>
    intro l h
    obtain ⟨h1, h2⟩ := ih (insE e l) (insE_rises e h)
    refine ⟨h1, h2.trans ?_⟩
    exact ((insE_perm e l).append_right E).trans (by rw [List.cons_append]; exact List.perm_middle.symm)
theorem sortE_rises (E : List EdgeD) : risesE (sortE E) := (sortE_go E [] .nil).1
theorem sortE_perm (E : List EdgeD) : (sortE E).Perm E := by unfold sortE; simpa using (sortE_go E [] .nil).2
theorem sort_keys (E : List EdgeD) : sortT (E.map (·.id)) = (sortE E).map (·.id) :=
  rises_one (sortT_rises _) (List.pairwise_map.2 (sortE_rises E)) ((sortT_perm _).trans ((sortE_perm E).symm.map _))
theorem sort_filter (E : List EdgeD) (p : EdgeD → Bool) : sortT ((E.filter p).map (·.id)) = ((sortE E).filter p).map (·.id) :=
  rises_one (sortT_rises _) (List.pairwise_map.2 ((sortE_rises E).filter p)) ((sortT_perm _).trans (((sortE_perm E).symm.filter p).map _))

/-! ### What is picked out of a map -/
def pick {β : Type} (p : NodeD → Bool) (f : TagD × NodeD → β) (l : List (TagD × NodeD)) (seen : List Nat) : List β := seen.filterMap fun i => (l[i]?).bind fun q => if p q.2 = true then some (f q) else none
theorem pick_yes {β : Type} {p : NodeD → Bool} {f : TagD × NodeD → β} {l : List (TagD × NodeD)} {seen : List Nat} {i : Nat} {q : TagD × NodeD} (hq : l[i]? = some q) (h : p q.2 = true) : pick p f l (seen ++ [i]) = pick p f l seen ++ [f q] := by
  simp [pick, hq, h]
theorem pick_no {β : Type} {p : NodeD → Bool} {f : TagD × NodeD → β} {l : List (TagD × NodeD)} {seen : List Nat} {i : Nat} {q : TagD × NodeD} (hq : l[i]? = some q) (h : ¬ p q.2 = true) : pick p f l (seen ++ [i]) = pick p f l seen := by
  simp [pick, hq, h]
theorem pick_range {β : Type} (p : NodeD → Bool) (f : TagD × NodeD → β) : ∀ (l : List (TagD × NodeD)), pick p f l (List.range l.length) = (l.filter fun q => p q.2).map f
  | [] => rfl
  | q :: l => by
    have ih := pick_range p f l
    simp only [pick] at ih ⊢
    rw [List.length_cons, List.range_succ_eq_map, List.filterMap_cons]
    simp only [List.getElem?_cons_zero, Option.bind_some, List.filterMap_map]
    have e : ((fun i => ((q :: l)[i]?).bind fun q => if p q.2 = true then some (f q) else none) ∘ Nat.succ) = fun i => (l[i]?).bind fun q => if p q.2 = true then some (f q) else none := by
      funext i; simp
    rw [e, ih]
    cases hp : p q.2 <;> simp [hp]
/-- Each entry once. -/
def Seen (n : Nat) (seen : List Nat) : Prop := seen.Nodup ∧ ∀ i ∈ seen, i < n
theorem Seen.next {n i : Nat} {seen : List Nat} (h : Seen n seen) (hi : i < n) (hn : i ∉ seen) : Seen n (seen ++ [i]) := by
  refine ⟨List.nodup_append.2 ⟨h.1, by simp, ?_⟩, fun j hj => ?_⟩
  · intro a ha b hb e
    rw [List.mem_singleton] at hb
    subst hb e; exact hn ha
  · rcases List.mem_append.1 hj with hj | hj
    · exact h.2 j hj
    · rw [List.mem_singleton.1 hj]; exact hi
theorem Seen.all {n : Nat} {seen : List Nat} (h : Seen n seen) (ha : ∀ i, i < n → i ∈ seen) : seen.Perm (List.range n) := by
  refine (List.perm_ext_iff_of_nodup h.1 List.nodup_range).2 fun i => ?_
  rw [List.mem_range]
  exact ⟨h.2 i, ha i⟩
theorem Seen.len {n : Nat} {seen : List Nat} (h : Seen n seen) : seen.length ≤ n := by
  have hp : seen.Perm ((List.range n).filter fun i => decide (i ∈ seen)) := (List.perm_ext_iff_of_nodup h.1 (List.nodup_range.filter _)).2 fun i => by
    rw [List.mem_filter, List.mem_range, decide_eq_true_eq]
    exact ⟨fun hi => ⟨h.2 i hi, hi⟩, fun hi => hi.2⟩
  have := List.length_filter_le (fun i => decide (i ∈ seen)) (List.range n)
  rw [hp.length_eq]
  simpa using this
theorem pick_len {β : Type} {p : NodeD → Bool} {f : TagD × NodeD → β} {l : List (TagD × NodeD)} {seen : List Nat} (h : Seen l.length seen) : (pick p f l seen).length ≤ l.length :=
  Nat.le_trans (List.length_filterMap_le _ _) h.len
theorem pick_all {β : Type} {p : NodeD → Bool} {f : TagD × NodeD → β} {l : List (TagD × NodeD)} {seen : List Nat} (h : Seen l.length seen) (ha : ∀ i, i < l.length → i ∈ seen) : (pick p f l seen).Perm ((l.filter fun q => p q.2).map f) := by
  rw [← pick_range]
  exact (h.all ha).filterMap _
/-- The rising tags of those nodes of which p holds. -/
def tagsOf (p : NodeD → Bool) (l : List (TagD × NodeD)) : List TagD := sortT ((l.filter fun q => p q.2).map (·.1))
theorem tags_pick {p : NodeD → Bool} {l : List (TagD × NodeD)} {seen : List Nat} (h : Seen l.length seen) (ha : ∀ i, i < l.length → i ∈ seen) : sortT (pick p (·.1) l seen) = tagsOf p l := sortT_eq (pick_all h ha)
theorem tagsOf_perm {p : NodeD → Bool} {l l' : List (TagD × NodeD)} (h : l.Perm l') : tagsOf p l = tagsOf p l' := sortT_eq ((h.filter _).map _)
theorem tagsOf_len {p : NodeD → Bool} {l : List (TagD × NodeD)} : (tagsOf p l).length ≤ l.length := by
  unfold tagsOf
  rw [sortT_len, List.length_map]
  exact List.length_filter_le _ _
/-- Of a map of edges: the edges in order. -/
def edgesOf (l : List (TagD × NodeD)) : List EdgeD := (tagsOf (fun _ => true) l).map fun k => ((findT k l).getD noNode).edge
theorem find_node {E : List EdgeD} (hu : E.Pairwise fun a b => ¬ a.id = b.id) : ∀ {e : EdgeD}, e ∈ E → ∀ (g : EdgeD → NodeD), findT e.id (E.map fun e => (e.id, g e)) = some (g e) := by
  induction E with
  | nil => intro e h; cases h
  | cons x E ih =>
    intro e he g
    obtain ⟨h1, h2⟩ := List.pairwise_cons.1 hu
    simp only [List.map_cons, findT]
    rcases List.mem_cons.1 he with rfl | he
    · rw [if_pos rfl]
    · rw [if_neg (fun h => h1 e he h.symm)]; exact ih h2 he g
theorem edgesOf_nodes {E : List EdgeD} (hu : E.Pairwise fun a b => ¬ a.id = b.id) : edgesOf (nodesOf E) = sortE E := by
  unfold edgesOf tagsOf nodesOf
  rw [List.filter_eq_self.2 (by intro a _; rfl), List.map_map]
  rw [show ((fun (q : TagD × NodeD) => q.1) ∘ fun e : EdgeD => (e.id, nodeOf E e)) = EdgeD.id from rfl, sort_keys, List.map_map]
  conv => rhs; rw [← List.map_id (sortE E)]
  refine List.map_congr_left fun e he => ?_
  simp only [Function.comp_apply, id]
  rw [find_node hu ((sortE_perm E).mem_iff.1 he) (nodeOf E)]
  rfl
theorem liveOf_nodes {E : List EdgeD} : tagsOf (fun n => decide (n.state = 2)) (nodesOf E) = ((sortE E).filter fun e => decide ((cameOf E e.id).1 = 2)).map (·.id) := by
  unfold tagsOf nodesOf
  rw [List.filter_map, List.map_map]
  exact sort_filter E fun e => decide ((cameOf E e.id).1 = 2)
/-! ### The same edges in another order -/
theorem edgeOf_perm {E F : List EdgeD} (hu : E.Pairwise fun a b => ¬ a.id = b.id) (hp : E.Perm F) (id : TagD) : edgeOf E id = edgeOf F id := by
  have hF : F.Pairwise fun a b => ¬ a.id = b.id := (hp.pairwise_iff (R := fun a b : EdgeD => ¬ a.id = b.id) (fun h e => h e.symm)).1 hu
  cases h : edgeOf E id with
  | some e =>
    obtain ⟨h1, rfl⟩ := edge_mem h
    exact (edge_of_mem hF (hp.mem_iff.1 h1)).symm
  | none =>
    cases k : edgeOf F id with
    | none => rfl
    | some e =>
      obtain ⟨h1, rfl⟩ := edge_mem k
      rw [edge_of_mem hu (hp.mem_iff.2 h1)] at h; cases h
theorem comes_perm {E F : List EdgeD} (hu : E.Pairwise fun a b => ¬ a.id = b.id) (hp : E.Perm F) : ∀ (n : Nat) (id : TagD), comes n E id = comes n F id
  | 0, _ => rfl
  | n + 1, id => by
    by_cases h0 : id = noTag
    · subst h0; rw [comes_root, comes_root]
    · have he := edgeOf_perm hu hp id
      cases h : edgeOf E id with
      | none => rw [comes_none h0 h, comes_none h0 (he ▸ h)]
      | some e => rw [comes_succ h0 h, comes_succ h0 (he ▸ h), comes_perm hu hp n e.parent]
theorem came_perm {E F : List EdgeD} (hu : E.Pairwise fun a b => ¬ a.id = b.id) (hp : E.Perm F) (id : TagD) : cameOf E id = cameOf F id := by
  unfold cameOf; rw [hp.length_eq]; exact comes_perm hu hp _ id
theorem nodes_perm {E F : List EdgeD} (hu : E.Pairwise fun a b => ¬ a.id = b.id) (hp : E.Perm F) : (nodesOf E).Perm (nodesOf F) := by
  have e : nodesOf F = F.map fun e => (e.id, nodeOf E e) := by
    unfold nodesOf
    refine List.map_congr_left fun e _ => ?_
    have := came_perm hu hp e.id
    unfold cameOf at this
    unfold nodeOf
    simp only [this]
  rw [e]
  exact hp.map _
theorem sortE_eq {E F : List EdgeD} (hu : E.Pairwise fun a b => ¬ a.id = b.id) (hp : E.Perm F) : sortE E = sortE F := by
  have hF : F.Pairwise fun a b => ¬ a.id = b.id := (hp.pairwise_iff (R := fun a b : EdgeD => ¬ a.id = b.id) (fun h e => h e.symm)).1 hu
  refine List.Perm.eq_of_pairwise (le := fun a b => leT a.id b.id = true) (fun a b ha hb h k => ?_) (sortE_rises E) (sortE_rises F) ((sortE_perm E).trans (hp.trans (sortE_perm F).symm))
  have he := leT_anti h k
  have h1 := edge_of_mem hu ((sortE_perm E).mem_iff.1 ha)
  have h2 := edge_of_mem hu (hp.mem_iff.2 ((sortE_perm F).mem_iff.1 hb))
  rw [he, h2] at h1
  exact (Option.some.inj h1).symm
end Go.Vm
end
section
namespace Go.Vm
set_option linter.unusedVariables false
set_option linter.unusedSimpArgs false

/-- The number of a tag's edge, or -1. -/
def atN (id : TagD) : Nat → List EdgeD → Int
  | _, [] => -1
  | k, e :: l => if e.id = id then (k : Int) else atN id (k + 1) l
def atE (E : List EdgeD) (id : TagD) : Int := atN id 0 E
theorem drop_atE {α : Type} {l : List α} {k : Nat} {x : α} (h : l[k]? = some x) : l.drop k = x :: l.drop (k + 1) := by
  obtain ⟨h1, h2⟩ := List.getElem?_eq_some_iff.1 h
  rw [List.drop_eq_getElem_cons h1, h2]
theorem atN_yes {id : TagD} {E : List EdgeD} {k : Nat} {e : EdgeD} (h : E[k]? = some e) (he : e.id = id) : atN id k (E.drop k) = k := by rw [drop_atE h, atN, if_pos he]
theorem atN_no {id : TagD} {E : List EdgeD} {k : Nat} {e : EdgeD} (h : E[k]? = some e) (he : ¬ e.id = id) : atN id k (E.drop k) = atN id (k + 1) (E.drop (k + 1)) := by rw [drop_atE h, atN, if_neg he]
theorem atN_end {id : TagD} {E : List EdgeD} {k : Nat} (h : E.length ≤ k) : atN id k (E.drop k) = -1 := by rw [List.drop_eq_nil_of_le h]; rfl
theorem atN_cases (id : TagD) : ∀ (k : Nat) (E : List EdgeD), (E.find? (fun e => decide (e.id = id)) = none ∧ atN id k E = -1) ∨ ∃ j e, E[j]? = some e ∧ E.find? (fun e => decide (e.id = id)) = some e ∧ atN id k E = ((k + j : Nat) : Int)
  | _, [] => .inl ⟨rfl, rfl⟩
  | k, e :: E => by
    by_cases h : e.id = id
    · refine .inr ⟨0, e, rfl, by simp [h], ?_⟩
      rw [atN, if_pos h]; simp
    · rcases atN_cases id (k + 1) E with ⟨h1, h2⟩ | ⟨j, x, h1, h2, h3⟩
      · exact .inl ⟨by simp [h]; simpa using h1, by rw [atN, if_neg h]; exact h2⟩
      · refine .inr ⟨j + 1, x, by simpa using h1, ?_, by rw [atN, if_neg h, h3]; congr 1; omega⟩
        rw [List.find?_cons_of_neg (by simpa using h)]; exact h2
theorem atE_cases (E : List EdgeD) (id : TagD) : (edgeOf E id = none ∧ atE E id = -1) ∨ ∃ (j : Nat) (e : EdgeD), E[j]? = some e ∧ edgeOf E id = some e ∧ atE E id = (j : Int) := by
  rcases atN_cases id 0 E with h | ⟨j, e, h1, h2, h3⟩
  · exact .inl h
  · exact .inr ⟨j, e, h1, h2, by unfold atE; simpa using h3⟩
theorem atE_miss {E : List EdgeD} {id : TagD} (h : atE E id < 0) : edgeOf E id = none := by
  rcases atE_cases E id with h1 | ⟨j, e, h1, h2, h3⟩
  · exact h1.1
  · omega
theorem atE_hit {E : List EdgeD} {id : TagD} (h : ¬ atE E id < 0) : ∃ (j : Nat) (e : EdgeD), E[j]? = some e ∧ edgeOf E id = some e ∧ atE E id = (j : Int) := by
  rcases atE_cases E id with h1 | h1
  · omega
  · exact h1

/-! ### Ways -/
def wayN : Nat → List EdgeD → TagD → Option (List EdgeD)
  | 0, _, _ => none
  | n + 1, E, id => if id = noTag then some [] else match edgeOf E id with
    | none => none
    | some e => (wayN n E e.parent).map (· ++ [e])
def wayOf (E : List EdgeD) (id : TagD) : Option (List EdgeD) := wayN (E.length + 1) E id
theorem way_root {n : Nat} {E : List EdgeD} {id : TagD} (h : id = noTag) : wayN (n + 1) E id = some [] := by simp [wayN, h]
theorem way_none {n : Nat} {E : List EdgeD} {id : TagD} (h : ¬ id = noTag) (he : edgeOf E id = none) : wayN (n + 1) E id = none := by simp [wayN, h, he]
theorem way_some {n : Nat} {E : List EdgeD} {id : TagD} {e : EdgeD} (h : ¬ id = noTag) (he : edgeOf E id = some e) : wayN (n + 1) E id = (wayN n E e.parent).map (· ++ [e]) := by simp [wayN, h, he]
/-- What comes of a way. -/
def foldW (w : List EdgeD) : Came := w.foldl (fun r e => stepC r e.lens) (2, rootS, 0)
theorem way_comes : ∀ (n : Nat) (E : List EdgeD) (id : TagD), match wayN n E id with
    | some w => comes n E id = foldW w
    | none => (comes n E id).1 = 0 ∨ (comes n E id).1 = 1
  | 0, E, id => .inr rfl
  | n + 1, E, id => by
    by_cases h0 : id = noTag
    · rw [way_root h0]; subst h0; rw [comes_root]; rfl
    · cases he : edgeOf E id with
      | none => rw [way_none h0 he, comes_none h0 he]; exact .inl rfl
      | some e =>
        rw [way_some h0 he, comes_succ h0 he]
        have ih := way_comes n E e.parent
        cases hw : wayN n E e.parent with
        | some w =>
          rw [hw] at ih
          simp only [Option.map_some] at ih ⊢
          rw [ih]; simp [foldW]
        | none =>
          rw [hw] at ih
          simp only [Option.map_none] at ih ⊢
          refine .inr ?_
          unfold stepC
          rw [if_neg (by omega), if_neg (by omega)]
theorem fold_done (w : List EdgeD) : doneB (foldW w) = true := by
  suffices h : ∀ (r : Came), doneB r = true → doneB (w.foldl (fun r e => stepC r e.lens) r) = true from h _ rfl
  induction w with
  | nil => intro r h; exact h
  | cons e w ih => intro r h; exact ih _ (step_of_done h)
/-- What the document's answer says of a tag: its state, and its schema. -/
theorem state_none {E : List EdgeD} {id : TagD} (h0 : ¬ id = noTag) (h : edgeOf E id = none) : (cameOf E id).1 = 0 ∧ (cameOf E id).2.1 = [] := by rw [came_none h0 h]; exact ⟨rfl, rfl⟩
theorem state_way {E : List EdgeD} {id : TagD} (h : id = noTag ∨ ¬ edgeOf E id = none) (hw : wayOf E id = none) : (cameOf E id).1 = 1 ∧ (cameOf E id).2.1 = [] := by
  by_cases h0 : id = noTag
  · subst h0; simp [wayOf, way_root] at hw
  · cases he : edgeOf E id with
    | none => exact absurd he (h.resolve_left h0)
    | some e =>
      have := way_comes (E.length + 1) E id
      unfold wayOf at hw
      rw [hw, comes_succ h0 he] at this
      simp only at this
      unfold cameOf
      rw [comes_succ h0 he]
      unfold stepC at this ⊢
      split at this
      · split at this <;> simp at this
      · rename_i h2
        rw [if_neg h2] at ⊢
        split at this
        · simp at this
        · rename_i h3; rw [if_neg h3]; exact ⟨rfl, rfl⟩
theorem state_some {E : List EdgeD} {id : TagD} {w : List EdgeD} (hw : wayOf E id = some w) : cameOf E id = foldW w := by
  have := way_comes (E.length + 1) E id
  unfold wayOf at hw
  rw [hw] at this
  exact this
theorem fold3 (r : Came) (h : r.1 = 3) : ∀ (w : List EdgeD), (w.foldl (fun r e => stepC r e.lens) r).1 = 3 ∧ (w = [] ∨ (w.foldl (fun r e => stepC r e.lens) r).2.1 = [])
  | [] => ⟨h, .inl rfl⟩
  | e :: w => by
    have hs : stepC r e.lens = (3, [], 0) := by unfold stepC; rw [if_neg (by omega), if_pos h]
    simp only [List.foldl_cons, hs]
    have h3 := fold3 (3, [], 0) rfl w
    refine ⟨h3.1, .inr ?_⟩
    rcases h3.2 with rfl | h4
    · rfl
    · exact h4
theorem fold_take {w : List EdgeD} {k : Nat} {e : EdgeD} (h : w[k]? = some e) : foldW (w.take (k + 1)) = stepC (foldW (w.take k)) e.lens := by
  unfold foldW
  rw [List.take_add_one, h, List.foldl_append]; rfl
theorem fold_stop {w : List EdgeD} {k : Nat} {e : EdgeD} {s : List FieldD} {d : Int} (h : w[k]? = some e) (hr : foldW (w.take k) = (2, s, d)) (hs : ¬ (applyS s e.lens).2 = 0) : (foldW w).1 = 3 ∧ (foldW w).2.1 = [] := by
  have h1 : foldW (w.take (k + 1)) = (3, [], 0) := by rw [fold_take h, hr]; unfold stepC; rw [if_pos rfl, if_neg hs]
  have h2 : foldW w = (w.drop (k + 1)).foldl (fun r e => stepC r e.lens) (3, [], 0) := by
    rw [← h1]; unfold foldW
    conv => lhs; rw [← List.take_append_drop (k + 1) w, List.foldl_append]
  rw [h2]
  have h3 := fold3 (3, [], 0) rfl (w.drop (k + 1))
  refine ⟨h3.1, ?_⟩
  rcases h3.2 with h4 | h4
  · rw [h4]; rfl
  · exact h4
theorem fold_go {w : List EdgeD} {k : Nat} {e : EdgeD} {s : List FieldD} {d : Int} (h : w[k]? = some e) (hr : foldW (w.take k) = (2, s, d)) (hs : (applyS s e.lens).2 = 0) : foldW (w.take (k + 1)) = (2, (applyS s e.lens).1, d + 1) := by
  rw [fold_take h, hr]; unfold stepC; rw [if_pos rfl, if_pos hs]
theorem fold_okL {w : List EdgeD} (hok : ∀ e ∈ w, okX e.lens) : okL (foldW w).2.1 := by
  suffices h : ∀ (r : Came), okL r.2.1 → okL (w.foldl (fun r e => stepC r e.lens) r).2.1 from h _ okL_root
  induction w with
  | nil => intro r h; exact h
  | cons e w ih =>
    intro r h
    refine ih (fun x hx => hok x (List.mem_cons_of_mem _ hx)) _ ?_
    show okL (stepC r e.lens).2.1
    unfold stepC
    split
    · split
      · exact okL_apply h (hok e (List.mem_cons_self ..))
      · exact okL_nil
    · split <;> exact okL_nil
theorem fold_depth : ∀ (w : List EdgeD) (r : Came), r.1 = 2 → (w.foldl (fun r e => stepC r e.lens) r).1 = 2 → (w.foldl (fun r e => stepC r e.lens) r).2.2 = r.2.2 + w.length
  | [], r, _, _ => by simp
  | e :: w, r, h, h2 => by
    simp only [List.foldl_cons] at h2 ⊢
    by_cases hs : (applyS r.2.1 e.lens).2 = 0
    · have e1 : stepC r e.lens = (2, (applyS r.2.1 e.lens).1, r.2.2 + 1) := by unfold stepC; rw [if_pos h, if_pos hs]
      rw [e1] at h2 ⊢
      rw [fold_depth w _ rfl h2]; simp; omega
    · have e1 : stepC r e.lens = (3, [], 0) := by unfold stepC; rw [if_pos h, if_neg hs]
      rw [e1] at h2
      have := (fold3 (3, [], 0) rfl w).1
      omega
/-- A live tag's way, and how deep it is. -/
theorem live_way {E : List EdgeD} {id : TagD} (h : (cameOf E id).1 = 2) : ∃ w, wayOf E id = some w ∧ (cameOf E id).2.2 = (w.length : Int) := by
  cases hw : wayOf E id with
  | some w =>
    refine ⟨w, rfl, ?_⟩
    have e := state_some hw
    rw [e] at h ⊢
    have := fold_depth w (2, rootS, 0) rfl h
    unfold foldW; rw [this]; simp
  | none =>
    have := way_comes (E.length + 1) E id
    unfold wayOf at hw
    rw [hw] at this
    unfold cameOf at h
    simp only at this
    omega
theorem way_mem : ∀ {n : Nat} {E : List EdgeD} {id : TagD} {w : List EdgeD}, wayN n E id = some w → ∀ e ∈ w, e ∈ E
  | 0, _, _, _, h => by cases h
  | n + 1, E, id, w, h => by
    by_cases h0 : id = noTag
    · rw [way_root h0] at h; injection h with h; subst h; simp
    · cases he : edgeOf E id with
      | none => rw [way_none h0 he] at h; cases h
      | some x =>
        rw [way_some h0 he] at h
        obtain ⟨v, hv, rfl⟩ := Option.map_eq_some_iff.1 h
        intro e hm
        rcases List.mem_append.1 hm with hm | hm
        · exact way_mem hv e hm
        · rw [List.mem_singleton.1 hm]; exact (edge_mem he).1
theorem way_len : ∀ {n : Nat} {E : List EdgeD} {id : TagD} {w : List EdgeD}, wayN n E id = some w → w.length < n
  | 0, _, _, _, h => by cases h
  | n + 1, E, id, w, h => by
    by_cases h0 : id = noTag
    · rw [way_root h0] at h; injection h with h; subst h; simp
    · cases he : edgeOf E id with
      | none => rw [way_none h0 he] at h; cases h
      | some x =>
        rw [way_some h0 he] at h
        obtain ⟨v, hv, rfl⟩ := Option.map_eq_some_iff.1 h
        have := way_len hv
        simp; omega

/-! ### Sorting as the document's answer does it -/
theorem insE_at (e : EdgeD) : ∀ (l : List EdgeD) (j : Nat), j ≤ l.length → (∀ i x, i < j → l[i]? = some x → lessT x.id e.id = true) → (∀ x, l[j]? = some x → lessT x.id e.id = false) → l.take j ++ e :: l.drop j = insE e l
  | [], j, hj, _, _ => by
    obtain rfl : j = 0 := by simpa using hj
    rfl
  | x :: l, 0, _, _, h2 => by
    have := h2 x rfl
    simp [insE, this]
  | x :: l, j + 1, hj, h1, h2 => by
    have hx := h1 0 x (by omega) rfl
    simp only [List.take_succ_cons, List.drop_succ_cons, List.cons_append, insE, hx, if_true]
    rw [insE_at e l j (by simpa using hj) (fun i y hi hy => h1 (i + 1) y (by omega) (by simpa using hy)) (fun y hy => h2 y (by simpa using hy))]
theorem sortE_take {E : List EdgeD} {k : Nat} {e : EdgeD} (h : E[k]? = some e) : sortE (E.take (k + 1)) = insE e (sortE (E.take k)) := by
  unfold sortE
  rw [List.take_add_one, h, List.foldl_append]; rfl
theorem sortE_len (E : List EdgeD) : (sortE E).length = E.length := (sortE_perm E).length_eq
/-- The edges that are taken, one behind the other. -/
def growE (l : List EdgeD) : List EdgeD := l.foldl (fun E e => (putE E e).1) []
theorem growE_take {l : List EdgeD} {k : Nat} {e : EdgeD} (h : l[k]? = some e) : growE (l.take (k + 1)) = (putE (growE (l.take k)) e).1 := by
  unfold growE
  rw [List.take_add_one, h, List.foldl_append]; rfl
theorem put_len {E : List EdgeD} {e : EdgeD} (h : E.length ≤ 40) : (putE E e).1.length ≤ 40 := by
  unfold putE
  split
  · exact h
  · split
    · split <;> exact h
    · split
      · exact h
      · simp; omega
theorem good_empty : Good [] := ⟨by simp, by simp, .nil⟩
theorem grow_good {l : List EdgeD} (hok : ∀ e ∈ l, okX e.lens) : Good (growE l) ∧ (growE l).length ≤ 40 := by
  suffices h : ∀ E, Good E → E.length ≤ 40 → Good (l.foldl (fun E e => (putE E e).1) E) ∧ (l.foldl (fun E e => (putE E e).1) E).length ≤ 40 from h [] good_empty (by simp)
  induction l with
  | nil => intro E h1 h2; exact ⟨h1, h2⟩
  | cons e l ih =>
    intro E h1 h2
    exact ih (fun x hx => hok x (List.mem_cons_of_mem _ hx)) _ (h1.put (hok e (List.mem_cons_self ..))) (put_len h2)
theorem rightL_kind {x : LensD} (h : rightL x = true) : 1 ≤ x.kind := by
  unfold rightL at h
  split at h
  · omega
  · simp only [Bool.and_eq_true] at h
    have h := h.2
    split at h
    · omega
    · simp only [Bool.and_eq_true] at h
      have h := h.2
      split at h
      · omega
      · simp only [Bool.and_eq_true] at h
        have h := h.2
        split at h
        · omega
        · simp only [Bool.and_eq_true] at h
          have h := h.2
          split at h
          · omega
          · split at h
            · omega
            · split at h
              · omega
              · cases h
theorem edgeB_ref (e : EdgeD) : edgeB e = (tagB e.id && (decide (e.parent = noTag) || tagB e.parent) && !decide (e.id = e.parent) && rightL e.lens && decide (e.lens.kind < 9)) := by
  unfold edgeB
  cases h1 : tagB e.id with
  | false => rfl
  | true =>
    have hr := tag_real h1
    cases h2 : rightL e.lens with
    | false => simp
    | true =>
      have hk := rightL_kind h2
      by_cases h3 : e.parent = noTag
      · have h5 : ¬ e.id = e.parent := by rw [h3]; exact hr
        rw [decide_eq_true h3, decide_eq_false h5]
        rw [Bool.eq_iff_iff]; simp only [Bool.true_and, Bool.true_or, Bool.and_true, Bool.not_false, Bool.and_eq_true, decide_eq_true_eq]; omega
      · rw [decide_eq_false h3]
        by_cases h4 : e.id = e.parent
        · rw [decide_eq_true h4, decide_eq_true h4.symm]; simp
        · have h5 : ¬ e.parent = e.id := fun h => h4 h.symm
          rw [decide_eq_false h4, decide_eq_false h5]
          cases tagB e.parent <;> (rw [Bool.eq_iff_iff]; simp only [Bool.true_and, Bool.false_or, Bool.and_true, Bool.not_false, Bool.and_eq_true, decide_eq_true_eq, Bool.false_and, Bool.and_false, Bool.false_eq_true, false_and, and_false]; try omega)
end Go.Vm
end
