/- Part 6 of what the proof of SketchSchemas stands on: SkL2, LnCells, SketchSchemasWalk. -/
import Derived.Test.YtmmffeldlhofiaaGreatDoorSketchSchemasM5
section
namespace Go.Vm
open Go.RowKit Go.Proofs
set_option linter.unusedVariables false
set_option linter.unusedSimpArgs false
set_option maxRecDepth 10000

open Go.Proofs.YtmmffeldlhofiaaGreatDoor Punnet.Name Punnet.Num

theorem boolO (b : Bool) {p : Prop} (h1 : b = false → p) (h2 : b = true → p) : p := by
  cases h : b with
  | false => exact h1 h
  | true => exact h2 h
theorem self_S (l : List FieldD) (h : okL l) : Contract Tryz.prog 33 [.row (l.map fD), .row (l.map fD)] [.d (.sc (.bool true))] := by
  have := refSchemaSame_any l l h
  rwa [decide_eq_true rfl] at this
theorem smallF_next {l : List ByteArray} {k : Nat} {p : ByteArray} (hp : l[k]? = some p) (ha : ∀ s ∈ l.take k, s.size ≤ 400) (hf : p.size ≤ 400) : ∀ s ∈ l.take (k + 1), s.size ≤ 400 := by
  intro x hx
  rw [List.take_add_one, hp] at hx
  rcases List.mem_append.1 hx with hx | hx
  · exact ha x hx
  · simp at hx; rw [hx]; exact hf
theorem texts_small {l : List FieldD} (h : rightS l = true) : ∀ s ∈ l.map textF, s.size ≤ 900000 := by
  intro s hs
  obtain ⟨f, hf, rfl⟩ := List.mem_map.1 hs
  exact Nat.le_trans (textF_size (rightS_mem h hf)) (by decide)

set_option maxHeartbeats 1000000 in
theorem sketchSchemas_any (l : List FieldD) (ls : List ByteArray) : Contract Tryz.prog 6 [.row (l.map fD), .row (ls.map strD)] [.d (.sc (.bool (true)))] := by
 refine T.fn [] Tryz.func6 ?_
 refine x_call T.en_8 (awake36_any) ?_
 refine brF ?_
 refine x_call T.en_29 (refSchemaHeavy_any _) ?_
 refine br (fun hg2 => ?y2) (fun hg2 => ?n2)
 case' y2 =>
  refine brT ?_
 case' n2 =>
  have hol : okL l := heavyS_ok (by simpa using hg2)
  refine x_len ?_
  refine br (fun hc4 => ?y4) (fun hc4 => ?n4)
  case' n4 =>
   refine xloopR (fb := []) T.ok (Nat.le_of_ble_eq_true rfl) [0, 1] (fun (k : Nat) => [(5, .c (.d (.sc (.int .i64 (k : Nat)))))]) (fun k => k ≤ ls.length ∧ ∀ s ∈ ls.take k, s.size ≤ 400) (fun k => ls.length - k) 0 ⟨Nat.zero_le _, (by simp)⟩ (x_ent (by first | rfl | (simp only [Tr.get]; simp; done)) trivial) ?_
   rintro k ⟨hk, hi⟩
   refine x_len ?_
   refine br (fun hc5 => ?y5) (fun hc5 => ?n5)
   case' y5 =>
    obtain ⟨p, hp⟩ := elem_at hc5
    have hkl := lt_len hp
    first | refine x_ix (by first | exact mapAt hp | exact mapAt hq | (rw [List.map_map]; exact mapAt hp)) ?_ | refine x_ixI (by first | exact mapAt hp | exact mapAt hq | (rw [List.map_map]; exact mapAt hp)) ?_
    refine x_len ?_
    refine br (fun hc6 => ?y6) (fun hc6 => ?n6)
    case' n6 =>
     have hz : p.size ≤ 400 := by omega
     first | refine x_inc ?_ | refine x_add ?_ | refine x_bin rfl rfl ?_
     refine x_rnd (k + 1) ⟨lt_len hp, (smallF_next hp hi hz)⟩ (by (try dsimp only); have := lt_len hp; omega) rfl (x_ent (by first | rfl | (simp only [Tr.get]; simp; done)) trivial) rfl
   case' n5 =>
    have hz4 : ∀ s ∈ ls, s.size ≤ 400 := by rw [List.take_of_length_le (past_end hc5)] at hi; exact hi
    have hls : ls.length ≤ 1000 := by omega
    have hzz : ∀ s ∈ ls, s.size ≤ 900000 := fun s h => Nat.le_trans (hz4 s h) (by decide)
    have c4 := skReadSchema_any ls hls hzz
    have c5 := ref36ReadSchema_any ls hls hzz
    have c2 := refSchemaRight_any l hol
    have c1 := skSchema_any l hol
    refine boolO (rightS l) (fun e => ?s6_0) (fun e => ?s6_1)
    case' s6_0 =>
     rw [e] at c2
     rw [if_neg (by rw [e]; decide), if_neg (by rw [e]; decide)] at c1
     refine x_call T.en_30 (c1) ?_
     refine x_call T.en_31 (c2) ?_
     first | refine x_bin (pr_neb Tryz.underlying4) rfl ?_ | refine x_bin rfl rfl ?_
     refine brF ?_
     refine brT ?_
     refine brF ?_
     refine x_len ?_
     refine br (fun hc10 => ?y10) (fun hc10 => ?n10)
     case' y10 =>
      first | exact absurd rfl hc10 | (exfalso; simp at hc10; done)
     case' n10 =>
      refine brF ?_
      refine x_call T.en_32 (by first | exact c3 | exact c4) ?_
      refine x_call T.en_34 (c5) ?_
      refine br (fun hg12 => ?y12) (fun hg12 => ?n12)
      case' y12 =>
       refine x_call T.en_33 (by first | exact self_S l hol | exact self_S (schemaOf ls).1 (schemaOf_ok ls)) ?_
      case' n12 =>
       exact absurd rfl hg12
    case' s6_1 =>
     rw [e] at c2
     rw [if_pos e, if_pos e] at c1
     have hl16 := rightS_len e
     have c3 := skReadSchema_any (l.map textF) (by rw [List.length_map]; omega) (texts_small e)
     rw [schemaOf_texts e] at c3
     refine x_call T.en_30 (c1) ?_
     refine x_call T.en_31 (c2) ?_
     first | refine x_bin (pr_neb Tryz.underlying4) rfl ?_ | refine x_bin rfl rfl ?_
     refine brF ?_
     refine brF ?_
     refine brF ?_
     refine brT ?_
     refine x_call T.en_32 (by first | exact c3 | exact c4) ?_
     refine x_len ?_
     refine x_len ?_
     refine br (fun hg17 => ?y17) (fun hg17 => ?n17)
     case' y17 =>
      exact absurd (by simp) hg17
     case' n17 =>
      refine brF ?_
      refine x_call T.en_33 (by first | exact self_S l hol | exact self_S (schemaOf ls).1 (schemaOf_ok ls)) ?_
      refine br (fun hc19 => ?y19) (fun hc19 => ?n19)
      case' y19 =>
       first | exact absurd rfl hc19 | (exfalso; simp at hc19; done)
      case' n19 =>
       refine xloopR (fb := []) T.ok (Nat.le_of_ble_eq_true rfl) [0, 1, 6] (fun (k : Nat) => [(10, .c (.d (.sc (.int .i64 (k : Nat)))))]) (fun k => k ≤ l.length ∧ True) (fun k => l.length - k) 0 ⟨Nat.zero_le _, trivial⟩ (x_ent (by first | rfl | (simp only [Tr.get]; simp; done)) trivial) ?_
       rintro k ⟨hk, hi⟩
       refine x_len ?_
       refine br (fun hc20 => ?y20) (fun hc20 => ?n20)
       case' y20 =>
        obtain ⟨p, hp⟩ : ∃ p, l[k]? = some p := elem_at (by have h9 := hc20; rw [List.length_map] at h9; exact h9)
        have hkl := lt_len hp
        have hrf := rightS_mem e (List.mem_of_getElem? hp)
        refine And.intro ⟨T.mixed, by decide +kernel⟩ ?_
        first | refine x_ix (by first | exact mapAt hp | exact mapAt hq | (rw [List.map_map]; exact mapAt hp)) ?_ | refine x_ixI (by first | exact mapAt hp | exact mapAt hq | (rw [List.map_map]; exact mapAt hp)) ?_
        first | refine x_ix (by first | exact mapAt hp | exact mapAt hq | (rw [List.map_map]; exact mapAt hp)) ?_ | refine x_ixI (by first | exact mapAt hp | exact mapAt hq | (rw [List.map_map]; exact mapAt hp)) ?_
        refine x_call T.en_26 (ref36Field_any p hrf) ?_
        refine br (fun hc21 => ?y21) (fun hc21 => ?n21)
        case' y21 =>
         exact absurd rfl hc21
        case' n21 =>
         first | refine x_inc ?_ | refine x_add ?_ | refine x_bin rfl rfl ?_
         refine x_rnd (k + 1) ⟨lt_len hp, trivial⟩ (by (try dsimp only); have := lt_len hp; omega) rfl (x_ent (by first | rfl | (simp only [Tr.get]; simp; done)) trivial) rfl
       case' n20 =>
        refine x_call T.en_32 (by first | exact c3 | exact c4) ?_
        refine x_call T.en_34 (c5) ?_
        refine br (fun hg22 => ?y22) (fun hg22 => ?n22)
        case' y22 =>
         refine x_call T.en_33 (by first | exact self_S l hol | exact self_S (schemaOf ls).1 (schemaOf_ok ls)) ?_
        case' n22 =>
         exact absurd rfl hg22
 all_goals (refine x_ret ?_; simp only [fitsL, fits, C.asD, and_true] <;> (first | rfl | (simp; done)))
end Go.Vm
end
section
namespace Go.Vm
open Go.RowKit Go.Proofs
set_option linter.unusedVariables false
set_option linter.unusedSimpArgs false
set_option maxRecDepth 10000

open Go.RowKit

section
variable {P : Program} {w : World}
theorem reps_cut {ro : Roles} {es : List Value} {o k : Nat} {c d : List D} (h1 : Reps ro w ((es.drop o).take k) c) (h2 : Reps ro w (es.drop (o + k)) d) : Reps ro w (es.drop o) (c ++ d) := by
  have h := h1.append h2
  rwa [← List.drop_drop, List.take_append_drop] at h
theorem reps_end {ro : Roles} {es : List Value} {o : Nat} (h : es.length = o) : Reps ro w (es.drop o) [] := by
  rw [List.drop_eq_nil_of_le (by omega)]; exact Reps.nil
theorem cells_int {t : TypeId} {cs : List Value} (ht : P.underlying t = some (.int .i64)) (h : Reads P w t cs) : ∃ n : Int, Reps allFrozen w cs [.sc (.int .i64 n)] := by
  obtain ⟨n, rfl, _⟩ := h.int ht
  exact ⟨n, rfl, by simp [Value.oneCell'], fun j u c hu hc => by cases j with | zero => simp at hu hc; subst hu hc; exact .sc rfl | succ j => simp at hu⟩
theorem cells_str {t : TypeId} {cs : List Value} (ht : P.underlying t = some .string) (h : Reads P w t cs) : ∃ s : ByteArray, Reps allFrozen w cs [.sc (.string s)] := by
  obtain ⟨s, rfl, _⟩ := h.string ht
  exact ⟨s, rfl, by simp [Value.oneCell'], fun j u c hu hc => by cases j with | zero => simp at hu hc; subst hu hc; exact .sc rfl | succ j => simp at hu⟩
theorem cells_row {t e : TypeId} {sz : Nat} {α : Type} {enc : α → D} {cs : List Value} (ht : P.underlying t = some (.slice e)) (hsz : P.cellsOf e = sz) (h0 : 0 < sz) (hw : ∀ x, (enc x).cells.length = sz) (hel : Cells P w e enc (fun _ => True)) (h : Reads P w t cs) : ∃ xs : List α, Reps allFrozen w cs [.row (xs.map enc)] := by
  have hc : ∃ a l c, cs = [.slice a l c] := by
    rcases h.slice ht with rfl | ⟨a, l, c, rfl, _⟩
    · exact ⟨_, _, _, rfl⟩
    · exact ⟨_, _, _, rfl⟩
  obtain ⟨a, l, c, rfl⟩ := hc
  obtain ⟨xs, hx, _⟩ := row_of ht hsz h0 hw hel h
  exact ⟨xs, rfl, by simp [Value.oneCell'], fun j u c hu hc => by cases j with | zero => simp at hu hc; subst hu hc; exact hx | succ j => simp at hu⟩
end
theorem str_cells (w : World) : Cells Tryz.prog w 9 strD (fun _ => True) := by
  intro es h
  obtain ⟨s, hs⟩ := cells_str Tryz.underlying9 h
  exact ⟨s, hs, trivial⟩

theorem ref_cells (w : World) : Cells Tryz.prog w 25 rD (fun _ => True) := by
  intro es h
  obtain ⟨hl, hf⟩ := h.struct Tryz.underlying25
  rw [show Tryz.prog.cellsOf 25 = 3 from by kernel_rfl] at hl
  have h0 := hf _ (List.mem_cons_self ..)
  simp only [show Tryz.prog.cellsOf 3 = 1 from by kernel_rfl] at h0
  obtain ⟨v0, r0⟩ := cells_int Tryz.underlying3 h0
  have h1 := hf _ (List.mem_cons_of_mem _ (List.mem_cons_self ..))
  simp only [show Tryz.prog.cellsOf 9 = 1 from by kernel_rfl] at h1
  obtain ⟨v1, r1⟩ := cells_str Tryz.underlying9 h1
  have h2 := hf _ (List.mem_cons_of_mem _ (List.mem_cons_of_mem _ (List.mem_cons_self ..)))
  simp only [show Tryz.prog.cellsOf 9 = 1 from by kernel_rfl] at h2
  obtain ⟨v2, r2⟩ := cells_str Tryz.underlying9 h2
  exact ⟨⟨v0, v1, v2⟩, reps_cut (o := 0) (k := 1) r0 (reps_cut (o := 1) (k := 1) r1 (reps_cut (o := 2) (k := 1) r2 (reps_end hl))), trivial⟩
theorem field_cells (w : World) : Cells Tryz.prog w 28 fD (fun _ => True) := by
  intro es h
  obtain ⟨hl, hf⟩ := h.struct Tryz.underlying28
  rw [show Tryz.prog.cellsOf 28 = 7 from by kernel_rfl] at hl
  have h0 := hf _ (List.mem_cons_self ..)
  simp only [show Tryz.prog.cellsOf 25 = 3 from by kernel_rfl] at h0
  obtain ⟨v0, r0, _⟩ := ref_cells w _ h0
  have h1 := hf _ (List.mem_cons_of_mem _ (List.mem_cons_self ..))
  simp only [show Tryz.prog.cellsOf 3 = 1 from by kernel_rfl] at h1
  obtain ⟨v1, r1⟩ := cells_int Tryz.underlying3 h1
  have h2 := hf _ (List.mem_cons_of_mem _ (List.mem_cons_of_mem _ (List.mem_cons_self ..)))
  simp only [show Tryz.prog.cellsOf 9 = 1 from by kernel_rfl] at h2
  obtain ⟨v2, r2⟩ := cells_str Tryz.underlying9 h2
  have h3 := hf _ (List.mem_cons_of_mem _ (List.mem_cons_of_mem _ (List.mem_cons_of_mem _ (List.mem_cons_self ..))))
  simp only [show Tryz.prog.cellsOf 26 = 1 from by kernel_rfl] at h3
  obtain ⟨v3, r3⟩ := cells_row Tryz.underlying26 (show Tryz.prog.cellsOf 9 = 1 from by kernel_rfl) (by omega) (fun _ => rfl) (str_cells w) h3
  have h4 := hf _ (List.mem_cons_of_mem _ (List.mem_cons_of_mem _ (List.mem_cons_of_mem _ (List.mem_cons_of_mem _ (List.mem_cons_self ..)))))
  simp only [show Tryz.prog.cellsOf 2 = 1 from by kernel_rfl] at h4
  obtain ⟨v4, r4⟩ := cells_int Tryz.underlying2 h4
  exact ⟨⟨v0, v1, v2, v3, v4⟩, reps_cut (o := 0) (k := 3) r0 (reps_cut (o := 3) (k := 1) r1 (reps_cut (o := 4) (k := 1) r2 (reps_cut (o := 5) (k := 1) r3 (reps_cut (o := 6) (k := 1) r4 (reps_end hl))))), trivial⟩
end Go.Vm
end
section
namespace Go.Vm
open Go.RowKit Go.Proofs
set_option linter.unusedVariables false
set_option linter.unusedSimpArgs false
set_option maxRecDepth 10000

end Go.Vm
namespace Go.Proofs.YtmmffeldlhofiaaGreatDoor
open Go.RowKit Go.Vm
theorem sketchSchemas_walk (a0 : Option Addr) (l0 c0 : Nat) (a1 : Option Addr) (l1 c1 : Nat) (w : World) (r0 : Reads Tryz.prog w 64 [.slice a0 l0 c0]) (r1 : Reads Tryz.prog w 26 [.slice a1 l1 c1]) :
    Calls Tryz.prog 6 #[.slice a0 l0 c0, .slice a1 l1 c1] w fun e w' => e = .returned (.bool true) ∧ Below w.heap.size w w' := by
  obtain ⟨x0, hx0, _⟩ := row_of Tryz.underlying64 (show Tryz.prog.cellsOf 28 = 7 from by kernel_rfl) (by omega) (fun _ => rfl) (field_cells w) r0
  obtain ⟨x1, hx1, _⟩ := row_of Tryz.underlying26 (show Tryz.prog.cellsOf 9 = 1 from by kernel_rfl) (by omega) (fun _ => rfl) (str_cells w) r1
  refine law_true (sketchSchemas_any x0 x1) rfl ?_
  intro i v d hv hd
  match i, hv, hd with
  | 0, hv, hd => simp at hv hd; subst hv hd; exact hx0
  | 1, hv, hd => simp at hv hd; subst hv hd; exact hx1
  | i + 2, hv, _ => simp at hv
end Go.Proofs.YtmmffeldlhofiaaGreatDoor
namespace Go.Vm

end Go.Vm
end
