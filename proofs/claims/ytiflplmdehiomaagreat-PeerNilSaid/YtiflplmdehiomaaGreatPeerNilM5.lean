/- Part 5 of what the proof of PeerNil stands on: LnTables, LnLensS, LnLens, LnLens2, LnLens3, LnMerged, LnArr, LnApply, LnApplyR, Xg9, TrPlain, OpP, OpHv, OpCells, PeerNilWalk. -/
import Derived.Test.YtiflplmdehiomaaGreatPeerNilM4
set_option linter.unusedVariables false
set_option linter.unusedSimpArgs false
set_option maxHeartbeats 1000000
section
namespace Go.Vm
open Go.RowKit Go.Proofs
set_option maxRecDepth 10000
theorem take_length {α : Type} {l : List α} {k : Nat} (h : k < l.length) : (l.take k).length = k := by rw [List.length_take]; omega
def heavyP (l : List (ByteArray × ByteArray)) : Bool := decide (20 < l.length) || l.any (fun p => decide (200 < p.1.size) || decide (200 < p.2.size))
def heavyL (x : LensD) : Bool := decide (200 < x.at_.group.size) || decide (200 < x.at_.name.size) || decide (200 < x.name.size) || decide (200 < x.other.size) || heavyF x.field || heavyP x.forth || heavyP x.back
theorem heavyPairs_any (l : (List (ByteArray × ByteArray))) : Contract Tryz.prog 47 [.row (l.map pairD)] [.d (.sc (.bool (heavyP l)))] := by
 refine T.fn [] Tryz.func47 ?_
 refine x_len ?_
 refine br (fun hc1 => ?y1) (fun hc1 => ?n1)
 case' n1 =>
  have h20 : l.length ≤ 20 := by omega
  refine xloopR (fb := []) T.ok (Nat.le_of_ble_eq_true rfl) [0] (fun (k : Nat) => [(3, .c (.d (.sc (.int .i64 (k : Nat)))))]) (fun k => k ≤ l.length ∧ (l.take k).any (fun p => decide (200 < p.1.size) || decide (200 < p.2.size)) = false ∧ l.length ≤ 20) (fun k => l.length - k) 0 ⟨Nat.zero_le _, ⟨rfl, h20⟩⟩ (x_ent (by first | rfl | (simp only [Tr.get]; simp; done)) trivial) ?_
  rintro k ⟨hk, hi⟩
  refine x_len ?_
  refine br (fun hc2 => ?y2) (fun hc2 => ?n2)
  case' y2 =>
   obtain ⟨p, hp⟩ := elem_at hc2
   have hkl := lt_len hp
   first | refine x_ix (by exact mapAt hp) ?_ | refine x_ixI (by exact mapAt hp) ?_
   refine x_len ?_
   refine br (fun hg3 => ?y3) (fun hg3 => ?n3)
   case' y3 =>
    refine brT ?_
   case' n3 =>
    first | refine x_ix (by exact mapAt hp) ?_ | refine x_ixI (by exact mapAt hp) ?_
    refine x_len ?_
    refine br (fun hc5 => ?y5) (fun hc5 => ?n5)
    case' n5 =>
     first | refine x_inc ?_ | refine x_add ?_ | refine x_bin rfl rfl ?_
     refine x_rnd (k + 1) ⟨lt_len hp, any_next hp hi.1 (by simp; omega), hi.2⟩ (by (try dsimp only); have := lt_len hp; omega) rfl (x_ent (by first | rfl | (simp only [Tr.get]; simp; done)) trivial) rfl
 all_goals (refine x_ret ?_; simp only [fitsL, fits, C.asD, and_true] <;> (refine scb ?_; first | (have hh := any_hit (f := fun p : ByteArray × ByteArray => decide (200 < p.1.size) || decide (200 < p.2.size)) hp (by simp; omega); unfold heavyP; rw [hh, Bool.or_true]; done) | (have hh := any_end (past_end (by assumption)) hi.1; unfold heavyP; rw [hh, Bool.or_false]; symm; simp only [decide_eq_true_eq, decide_eq_false_iff_not, Bool.not_eq_true', Bool.not_eq_false', Bool.and_eq_true, Bool.or_eq_true, Bool.or_eq_false_iff, Bool.and_eq_false_iff, beq_iff_eq, beq_eq_false_iff_ne, ne_eq, Bool.not_true, Bool.not_false, Bool.false_eq_true, Bool.true_eq_false] at * <;> omega) | (symm; unfold heavyP; simp only [decide_eq_true_eq, decide_eq_false_iff_not, Bool.not_eq_true', Bool.not_eq_false', Bool.and_eq_true, Bool.or_eq_true, Bool.or_eq_false_iff, Bool.and_eq_false_iff, beq_iff_eq, beq_eq_false_iff_ne, ne_eq, Bool.not_true, Bool.not_false, Bool.false_eq_true, Bool.true_eq_false] at * <;> omega)))
end Go.Vm
end
section
namespace Go.Vm
open Go.RowKit Go.Proofs
set_option maxRecDepth 10000
end Go.Vm
end
section
namespace Go.Vm
open Go.RowKit Go.Proofs
set_option maxRecDepth 10000
theorem refLensHeavy_any (x : LensD) : Contract Tryz.prog 17 [lD x] [.d (.sc (.bool (heavyL x)))] := by
 refine T.fn [] Tryz.func17 ?_
 refine x_len ?_
 refine br (fun hg1 => ?y1) (fun hg1 => ?n1)
 case' y1 =>
  refine brT ?_
  refine brT ?_
  refine brT ?_
  refine brT ?_
  refine brT ?_
 case' n1 =>
  refine x_len ?_
  refine br (fun hg7 => ?y7) (fun hg7 => ?n7)
  case' y7 =>
   refine brT ?_
   refine brT ?_
   refine brT ?_
   refine brT ?_
  case' n7 =>
   refine x_len ?_
   refine br (fun hg12 => ?y12) (fun hg12 => ?n12)
   case' y12 =>
    refine brT ?_
    refine brT ?_
    refine brT ?_
   case' n12 =>
    refine x_len ?_
    refine br (fun hg16 => ?y16) (fun hg16 => ?n16)
    case' y16 =>
     refine brT ?_
     refine brT ?_
    case' n16 =>
     refine x_call T.en_46 (refFieldHeavy_any _) ?_
     refine br (fun hg19 => ?y19) (fun hg19 => ?n19)
     case' y19 =>
      refine brT ?_
     case' n19 =>
      refine x_call T.en_47 (heavyPairs_any _) ?_
      refine br (fun hg21 => ?y21) (fun hg21 => ?n21)
      case' n21 =>
       refine x_call T.en_47 (heavyPairs_any _) ?_
 all_goals (refine x_ret ?_; simp only [fitsL, fits, C.asD, and_true] <;> (refine scb ?_; symm; unfold heavyL; first | (simp_all; done) | (simp_all <;> omega)))
end Go.Vm
end
section
namespace Go.Vm
open Go.RowKit Go.Proofs
set_option maxRecDepth 10000
end Go.Vm
end
section
namespace Go.Vm
open Go.RowKit Go.Proofs
set_option maxRecDepth 10000
end Go.Vm
end
section
namespace Go.Vm
open Go.RowKit Go.Proofs
set_option maxRecDepth 10000
end Go.Vm
end
section
namespace Go.Vm
open Go.RowKit Go.Proofs
set_option maxRecDepth 10000
end Go.Vm
end
section
namespace Go.Vm
open Go.RowKit Go.Proofs
set_option maxRecDepth 10000
end Go.Vm
end
section
namespace Go.Vm
open Go.RowKit Go.Proofs
set_option maxRecDepth 10000
end Go.Vm
end
section
namespace Go.Vm
open Go.RowKit
section
variable {P : Program} {N : Nat} {t : Tr} {h : Hp} {o : Oper}
def hpost (h : Hp) : List (Nat × S) → Hp
 | [] => h
 | (n, s) :: l => hset (hpost h l) n s
end
end Go.Vm
end
section
namespace Go.Vm
open Go.RowKit
structure TagD where
 r : Int
 n : Int
 deriving DecidableEq
def noTag : TagD := ⟨0, 0⟩
structure EdgeD where
 id : TagD
 parent : TagD
 lens : LensD
 deriving DecidableEq
structure NodeD where
 edge : EdgeD
 state : Int
 schema : List FieldD
 depth : Int
 deriving DecidableEq
def tD (t : TagD) : D := .agg [.sc (.int .i64 t.r), .sc (.int .i64 t.n)]
def lensC (x : LensD) : List D := [.sc (.int .i64 x.kind), .sc (.int .i64 x.at_.scope), .sc (.string x.at_.group), .sc (.string x.at_.name), .sc (.string x.name), .sc (.string x.other), .sc (.int .i64 x.factor),
 .sc (.int .i64 x.field.at_.scope), .sc (.string x.field.at_.group), .sc (.string x.field.at_.name), .sc (.int .i64 x.field.kind), .sc (.string x.field.deft), .row (x.field.cases.map strD), .sc (.int .i64 x.field.worth), .row (x.forth.map pairD), .row (x.back.map pairD)]
def edgeC (e : EdgeD) : List D := .sc (.int .i64 e.id.r) :: .sc (.int .i64 e.id.n) :: .sc (.int .i64 e.parent.r) :: .sc (.int .i64 e.parent.n) :: lensC e.lens
def eD (e : EdgeD) : D := .agg (edgeC e)
def nodeC (n : NodeD) : List D := .sc (.int .i64 n.edge.id.r) :: .sc (.int .i64 n.edge.id.n) :: .sc (.int .i64 n.edge.parent.r) :: .sc (.int .i64 n.edge.parent.n) :: 
 [.sc (.int .i64 n.edge.lens.kind), .sc (.int .i64 n.edge.lens.at_.scope), .sc (.string n.edge.lens.at_.group), .sc (.string n.edge.lens.at_.name), .sc (.string n.edge.lens.name), .sc (.string n.edge.lens.other), .sc (.int .i64 n.edge.lens.factor),
 .sc (.int .i64 n.edge.lens.field.at_.scope), .sc (.string n.edge.lens.field.at_.group), .sc (.string n.edge.lens.field.at_.name), .sc (.int .i64 n.edge.lens.field.kind), .sc (.string n.edge.lens.field.deft), .row (n.edge.lens.field.cases.map strD), .sc (.int .i64 n.edge.lens.field.worth), .row (n.edge.lens.forth.map pairD), .row (n.edge.lens.back.map pairD),
 .sc (.int .i64 n.state), .row (n.schema.map fD), .sc (.int .i64 n.depth)]
def nD (n : NodeD) : D := .agg (nodeC n)
def rootS : List FieldD := [⟨⟨0, noB, ⟨#[99, 111, 117, 112, 111, 110]⟩⟩, 2, noB, [], 0⟩, ⟨⟨1, noB, ⟨#[110, 111, 116, 101]⟩⟩, 2, noB, [], 0⟩, ⟨⟨1, noB, ⟨#[113, 116, 121]⟩⟩, 1, noB, [], 1⟩, ⟨⟨1, noB, ⟨#[115, 105, 122, 101]⟩⟩, 3, ⟨#[109, 101, 100, 105, 117, 109]⟩, [⟨#[115, 109, 97, 108, 108]⟩, ⟨#[109, 101, 100, 105, 117, 109]⟩, ⟨#[108, 97, 114, 103, 101]⟩], 0⟩, ⟨⟨1, noB, ⟨#[116, 97, 103, 115]⟩⟩, 4, noB, [], 0⟩]
def edgeOf (E : List EdgeD) (id : TagD) : Option EdgeD := E.find? fun e => decide (e.id = id)
def stepC (r : Int × List FieldD × Int) (x : LensD) : Int × List FieldD × Int :=
 if r.1 = 2 then (if (applyS r.2.1 x).2 = 0 then (2, (applyS r.2.1 x).1, r.2.2 + 1) else (3, [], 0)) else if r.1 = 3 then (3, [], 0) else (1, [], 0)
def comes : Nat → List EdgeD → TagD → Int × List FieldD × Int
 | 0, _, _ => (1, [], 0)
 | n + 1, E, id => if id = noTag then (2, rootS, 0) else match edgeOf E id with
  | none => (0, [], 0)
  | some e => stepC (comes n E e.parent) e.lens
def ents (l : List (TagD × NodeD)) : List (D × D) := l.map fun p => (tD p.1, nD p.2)
end Go.Vm
end
section
namespace Go.Vm
open Go.RowKit
structure OpD where
 id : TagD
 schema : TagD
 time : Int
 cart : ByteArray
 kind : Int
 item : ByteArray
 at_ : RefD
 delta : Int
 has : Bool
 text : ByteArray
 drops : List TagD
 deriving DecidableEq
def opC (o : OpD) : List D := [.sc (.int .i64 o.id.r), .sc (.int .i64 o.id.n), .sc (.int .i64 o.schema.r), .sc (.int .i64 o.schema.n), .sc (.int .i64 o.time), .sc (.string o.cart), .sc (.int .i64 o.kind), .sc (.string o.item), .sc (.int .i64 o.at_.scope), .sc (.string o.at_.group), .sc (.string o.at_.name), .sc (.int .i64 o.delta), .sc (.bool o.has), .sc (.string o.text), .row (o.drops.map tD)]
def oD (o : OpD) : D := .agg (opC o)
structure VecD where
 v1 : Int
 v2 : Int
 v3 : Int
 v4 : Int
 v5 : Int
 v6 : Int
 deriving DecidableEq
def vecC (v : VecD) : List D := [.sc (.int .i64 v.v1), .sc (.int .i64 v.v2), .sc (.int .i64 v.v3), .sc (.int .i64 v.v4), .sc (.int .i64 v.v5), .sc (.int .i64 v.v6)]
structure NoteD where
 kind : Int
 who : Int
 format : Int
 have_ : VecD
 tags : List TagD
 edges : List EdgeD
 ops : List OpD
 deriving DecidableEq
def noteC (n : NoteD) : List D := [.sc (.int .i64 n.kind), .sc (.int .i64 n.who), .sc (.int .i64 n.format), .sc (.int .i64 n.have_.v1), .sc (.int .i64 n.have_.v2), .sc (.int .i64 n.have_.v3), .sc (.int .i64 n.have_.v4), .sc (.int .i64 n.have_.v5), .sc (.int .i64 n.have_.v6), .row (n.tags.map tD), .row (n.edges.map eD), .row (n.ops.map oD)]
def noteD (n : NoteD) : D := .agg (noteC n)
def heavyO (o : OpD) : Bool := decide (200 < o.cart.size) || decide (200 < o.item.size) || decide (200 < o.at_.group.size) || decide (200 < o.at_.name.size) || decide (200 < o.text.size) || decide (200 < o.drops.length)
def heavyOs (m : Nat) (l : List OpD) : Bool := decide (m < l.length) || l.any heavyO
structure DeedD where
 kind : Int
 cart : ByteArray
 item : ByteArray
 at_ : RefD
 n : Int
 text : ByteArray
 tag : TagD
 lens : LensD
 deriving DecidableEq
end Go.Vm
end
section
namespace Go.Vm
open Go.RowKit Go.Proofs
set_option maxRecDepth 10000
def heavyEs (m : Nat) (E : List EdgeD) : Bool := decide (m < E.length) || E.any fun e => heavyL e.lens
def heavyN (n : NoteD) : Bool := decide (100 < n.tags.length) || heavyEs 12 n.edges || heavyOs 12 n.ops
theorem edgesHeavy_any (E : List EdgeD) (m : Nat) (hm : m ≤ 1000) : Contract Tryz.prog 29 [.row (E.map eD), .sc (.int .i64 (m : Nat))] [.d (.sc (.bool (heavyEs m E)))] := by
 refine T.fn [] Tryz.func29 ?_
 refine x_len ?_
 refine br (fun hc1 => ?y1) (fun hc1 => ?n1)
 case' n1 =>
  have h40 : E.length ≤ m := by omega
  refine xloopR (fb := []) T.ok (Nat.le_of_ble_eq_true rfl) [0] (fun (k : Nat) => [(5, .c (.d (.sc (.int .i64 (k : Nat)))))]) (fun k => k ≤ E.length ∧ (E.take k).any (fun e => heavyL e.lens) = false ∧ E.length ≤ m) (fun k => E.length - k) 0 ⟨Nat.zero_le _, ⟨rfl, h40⟩⟩ (x_ent (by first | rfl | (simp only [Tr.get]; simp; done)) trivial) ?_
  rintro k ⟨hk, hi⟩
  refine x_len ?_
  refine br (fun hc2 => ?y2) (fun hc2 => ?n2)
  case' y2 =>
   obtain ⟨p, hp⟩ := elem_at hc2
   have hkl := lt_len hp
   first | refine x_ix (by exact mapAt hp) ?_ | refine x_ixI (by exact mapAt hp) ?_
   refine x_call T.en_17 (refLensHeavy_any _) ?_
   refine br (fun hc3 => ?y3) (fun hc3 => ?n3)
   case' n3 =>
    first | refine x_inc ?_ | refine x_add ?_ | refine x_bin rfl rfl ?_
    refine x_rnd (k + 1) ⟨lt_len hp, any_next hp hi.1 (by simp_all), hi.2⟩ (by (try dsimp only); have := lt_len hp; omega) rfl (x_ent (by first | rfl | (simp only [Tr.get]; simp; done)) trivial) rfl
 all_goals (refine x_ret ?_; simp only [fitsL, fits, C.asD, and_true] <;> (refine scb ?_; first | (have hh := any_hit (f := fun e : EdgeD => heavyL e.lens) hp (by assumption); unfold heavyEs; rw [hh, Bool.or_true]; done) | (have hh := any_end (past_end (by assumption)) hi.1; unfold heavyEs; rw [hh, Bool.or_false]; symm; simp only [decide_eq_true_eq, decide_eq_false_iff_not, Bool.not_eq_true', Bool.not_eq_false', Bool.and_eq_true, Bool.or_eq_true, Bool.or_eq_false_iff, Bool.and_eq_false_iff, beq_iff_eq, beq_eq_false_iff_ne, ne_eq, Bool.not_true, Bool.not_false, Bool.false_eq_true, Bool.true_eq_false] at * <;> omega) | (symm; unfold heavyEs; simp only [decide_eq_true_eq, decide_eq_false_iff_not, Bool.not_eq_true', Bool.not_eq_false', Bool.and_eq_true, Bool.or_eq_true, Bool.or_eq_false_iff, Bool.and_eq_false_iff, beq_iff_eq, beq_eq_false_iff_ne, ne_eq, Bool.not_true, Bool.not_false, Bool.false_eq_true, Bool.true_eq_false] at * <;> omega)))
theorem opHeavy_any (o : OpD) : Contract Tryz.prog 65 [oD o] [.d (.sc (.bool (heavyO o)))] := by
 refine T.fn [] Tryz.func65 ?_
 refine x_len ?_
 refine br (fun hg1 => ?y1) (fun hg1 => ?n1)
 case' y1 =>
  refine brT ?_
  refine brT ?_
  refine brT ?_
  refine brT ?_
 case' n1 =>
  refine x_len ?_
  refine br (fun hg6 => ?y6) (fun hg6 => ?n6)
  case' y6 =>
   refine brT ?_
   refine brT ?_
   refine brT ?_
  case' n6 =>
   refine x_len ?_
   refine br (fun hg10 => ?y10) (fun hg10 => ?n10)
   case' y10 =>
    refine brT ?_
    refine brT ?_
   case' n10 =>
    refine x_len ?_
    refine br (fun hg13 => ?y13) (fun hg13 => ?n13)
    case' y13 =>
     refine brT ?_
    case' n13 =>
     refine x_len ?_
     refine br (fun hg15 => ?y15) (fun hg15 => ?n15)
     case' n15 =>
      refine x_len ?_
 all_goals (refine x_ret ?_; simp only [fitsL, fits, C.asD, and_true] <;> (refine scb ?_; symm; unfold heavyO; first | (simp_all; done) | (simp_all <;> omega; done) | (rw [Bool.eq_iff_iff]; simp only [true_iff, decide_eq_true_eq, decide_eq_false_iff_not, Bool.not_eq_true', Bool.not_eq_false', Bool.and_eq_true, Bool.or_eq_true, Bool.or_eq_false_iff, Bool.and_eq_false_iff, beq_iff_eq, beq_eq_false_iff_ne, ne_eq, Bool.not_true, Bool.not_false, Bool.false_eq_true, Bool.true_eq_false]; omega)))
theorem opsHeavy_any (E : List OpD) (m : Nat) (hm : m ≤ 1000) : Contract Tryz.prog 30 [.row (E.map oD), .sc (.int .i64 (m : Nat))] [.d (.sc (.bool (heavyOs m E)))] := by
 refine T.fn [] Tryz.func30 ?_
 refine x_len ?_
 refine br (fun hc1 => ?y1) (fun hc1 => ?n1)
 case' n1 =>
  have h40 : E.length ≤ m := by omega
  refine xloopR (fb := []) T.ok (Nat.le_of_ble_eq_true rfl) [0] (fun (k : Nat) => [(5, .c (.d (.sc (.int .i64 (k : Nat)))))]) (fun k => k ≤ E.length ∧ (E.take k).any heavyO = false ∧ E.length ≤ m) (fun k => E.length - k) 0 ⟨Nat.zero_le _, ⟨rfl, h40⟩⟩ (x_ent (by first | rfl | (simp only [Tr.get]; simp; done)) trivial) ?_
  rintro k ⟨hk, hi⟩
  refine x_len ?_
  refine br (fun hc2 => ?y2) (fun hc2 => ?n2)
  case' y2 =>
   obtain ⟨p, hp⟩ := elem_at hc2
   have hkl := lt_len hp
   first | refine x_ix (by exact mapAt hp) ?_ | refine x_ixI (by exact mapAt hp) ?_
   refine x_call T.en_65 (opHeavy_any _) ?_
   refine br (fun hc3 => ?y3) (fun hc3 => ?n3)
   case' n3 =>
    first | refine x_inc ?_ | refine x_add ?_ | refine x_bin rfl rfl ?_
    refine x_rnd (k + 1) ⟨lt_len hp, any_next hp hi.1 (by simp_all), hi.2⟩ (by (try dsimp only); have := lt_len hp; omega) rfl (x_ent (by first | rfl | (simp only [Tr.get]; simp; done)) trivial) rfl
 all_goals (refine x_ret ?_; simp only [fitsL, fits, C.asD, and_true] <;> (refine scb ?_; first | (have hh := any_hit (f := heavyO) hp (by assumption); unfold heavyOs; rw [hh, Bool.or_true]; done) | (have hh := any_end (past_end (by assumption)) hi.1; unfold heavyOs; rw [hh, Bool.or_false]; symm; simp only [decide_eq_true_eq, decide_eq_false_iff_not, Bool.not_eq_true', Bool.not_eq_false', Bool.and_eq_true, Bool.or_eq_true, Bool.or_eq_false_iff, Bool.and_eq_false_iff, beq_iff_eq, beq_eq_false_iff_ne, ne_eq, Bool.not_true, Bool.not_false, Bool.false_eq_true, Bool.true_eq_false] at * <;> omega) | (symm; unfold heavyOs; simp only [decide_eq_true_eq, decide_eq_false_iff_not, Bool.not_eq_true', Bool.not_eq_false', Bool.and_eq_true, Bool.or_eq_true, Bool.or_eq_false_iff, Bool.and_eq_false_iff, beq_iff_eq, beq_eq_false_iff_ne, ne_eq, Bool.not_true, Bool.not_false, Bool.false_eq_true, Bool.true_eq_false] at * <;> omega)))
theorem noteHeavy_any (n : NoteD) : Contract Tryz.prog 6 [noteD n] [.d (.sc (.bool (heavyN n)))] := by
 refine T.fn [] Tryz.func6 ?_
 refine x_len ?_
 refine br (fun hg1 => ?y1) (fun hg1 => ?n1)
 case' y1 =>
  refine brT ?_
 case' n1 =>
  refine x_call T.en_29 (edgesHeavy_any n.edges 12 (by decide)) ?_
  refine br (fun hg3 => ?y3) (fun hg3 => ?n3)
  case' n3 =>
   refine x_call T.en_30 (opsHeavy_any n.ops 12 (by decide)) ?_
 all_goals (refine x_ret ?_; simp only [fitsL, fits, C.asD, and_true] <;> (refine scb ?_; symm; unfold heavyN; first | (simp_all; done) | (simp_all <;> omega; done) | (rw [Bool.eq_iff_iff]; simp only [true_iff, decide_eq_true_eq, decide_eq_false_iff_not, Bool.not_eq_true', Bool.not_eq_false', Bool.and_eq_true, Bool.or_eq_true, Bool.or_eq_false_iff, Bool.and_eq_false_iff, beq_iff_eq, beq_eq_false_iff_ne, ne_eq, Bool.not_true, Bool.not_false, Bool.false_eq_true, Bool.true_eq_false]; omega)))
end Go.Vm
end
section
namespace Go.Vm
open Go.RowKit Go.Proofs
set_option maxRecDepth 10000
section
variable {P : Program} {w : World}
theorem reps_cut {ro : Roles} {es : List Value} {o k : Nat} {c d : List D} (h1 : Reps ro w ((es.drop o).take k) c) (h2 : Reps ro w (es.drop (o + k)) d) : Reps ro w (es.drop o) (c ++ d) := by
  have h := h1.append h2
  rwa [← List.drop_drop, List.take_append_drop] at h
theorem reps_end {ro : Roles} {es : List Value} {o : Nat} (h : es.length = o) : Reps ro w (es.drop o) [] := by
  rw [List.drop_eq_nil_of_le (by omega)]; exact Reps.nil
theorem cells_int {t : TypeId} {cs : List Value} (ht : P.underlying t = some (.int .i64)) (h : Reads P w t cs) : ∃ n : Int, Reps allFrozen w cs [.sc (.int .i64 n)] := by
  obtain ⟨n, rfl, _⟩ := h.int ht
  exact ⟨n, rfl, by simp [Value.oneCell'], fun j u c hu hc => by cases j with | zero => simp at hu hc; subst hu hc; exact .sc rfl | succ j => simp at hu⟩
theorem cells_str {t : TypeId} {cs : List Value} (ht : P.underlying t = some .string) (h : Reads P w t cs) : ∃ s : ByteArray, Reps allFrozen w cs [.sc (.string s)] := by
  obtain ⟨s, rfl, _⟩ := h.string ht
  exact ⟨s, rfl, by simp [Value.oneCell'], fun j u c hu hc => by cases j with | zero => simp at hu hc; subst hu hc; exact .sc rfl | succ j => simp at hu⟩
theorem cells_row {t e : TypeId} {sz : Nat} {α : Type} {enc : α → D} {cs : List Value} (ht : P.underlying t = some (.slice e)) (hsz : P.cellsOf e = sz) (h0 : 0 < sz) (hw : ∀ x, (enc x).cells.length = sz) (hel : Cells P w e enc (fun _ => True)) (h : Reads P w t cs) : ∃ xs : List α, Reps allFrozen w cs [.row (xs.map enc)] := by
  have hc : ∃ a l c, cs = [.slice a l c] := by
    rcases h.slice ht with rfl | ⟨a, l, c, rfl, _⟩
    · exact ⟨_, _, _, rfl⟩
    · exact ⟨_, _, _, rfl⟩
  obtain ⟨a, l, c, rfl⟩ := hc
  obtain ⟨xs, hx, _⟩ := row_of ht hsz h0 hw hel h
  exact ⟨xs, rfl, by simp [Value.oneCell'], fun j u c hu hc => by cases j with | zero => simp at hu hc; subst hu hc; exact hx | succ j => simp at hu⟩
theorem rep_agg {ro : Roles} {s : Array Value} {cs : List D} (h : Reps ro w s.toList cs) : Rep ro w (.agg s) (.agg cs) := .agg (by simpa using h.1) h.2.1 h.2.2
end
theorem str_cells (w : World) : Cells Tryz.prog w 9 strD (fun _ => True) := by
  intro es h
  obtain ⟨s, hs⟩ := cells_str Tryz.underlying9 h
  exact ⟨s, hs, trivial⟩
theorem cells_bool {P : Program} {w : World} {t : TypeId} {cs : List Value} (ht : P.underlying t = some .bool) (h : Reads P w t cs) : ∃ n : Bool, Reps allFrozen w cs [.sc (.bool n)] := by
  obtain ⟨n, rfl⟩ := h.bool ht
  exact ⟨n, rfl, by simp [Value.oneCell'], fun j u c hu hc => by cases j with | zero => simp at hu hc; subst hu hc; exact .sc rfl | succ j => simp at hu⟩
theorem mapM_get {α β : Type} {f : α → Option β} : ∀ {l : List α} {r : List β}, l.mapM f = some r → ∀ a ∈ l, ∃ y, f a = some y
  | [], _, _, a, hm => by cases hm
  | x :: l, r, hr, a, hm => by
    rw [List.mapM_cons] at hr
    cases ha : f x with
    | none => rw [ha] at hr; cases hr
    | some y =>
      rw [ha] at hr
      cases hl : l.mapM f with
      | none => rw [hl] at hr; cases hr
      | some r' =>
        rcases List.mem_cons.1 hm with rfl | hm
        · exact ⟨y, ha⟩
        · exact mapM_get hl a hm
theorem reads_array {P : Program} {w : World} {t e : TypeId} {n : Nat} {cs : List Value} (ht : P.underlying t = some (.array n e)) (h : Reads P w t cs) : cs.length = P.cellsOf t ∧ ∀ i, i < n → Reads P w e ((cs.drop (i * P.cellsOf e)).take (P.cellsOf e)) := by
  obtain ⟨H, enc, fuel, x, hf⟩ := h
  cases fuel with
  | zero => simp [DataW.trod] at hf
  | succ k =>
    have hf' : (if cs.length = P.cellsOf t then ((List.range n).mapM fun i => DataW.trod enc P w 0 (fun _ => true) true k e ((cs.drop (i * P.cellsOf e)).take (P.cellsOf e))).map fun xs => (DataW.agg (xs.map (·.1)), xs.flatMap (·.2)) else none) = some x := by
      rw [← hf]; simp only [DataW.trod, ht]
    split at hf'
    · rename_i hl
      refine ⟨hl, fun i hi => ?_⟩
      rw [Option.map_eq_some_iff] at hf'
      obtain ⟨r, hr, _⟩ := hf'
      obtain ⟨y, hy⟩ := mapM_get hr i (List.mem_range.2 hi)
      exact ⟨H, enc, k, y, hy⟩
    · cases hf'
theorem vec_cells (w : World) (cs : List Value) (h : Reads Tryz.prog w 23 cs) : ∃ v : VecD, Reps allFrozen w cs (vecC v) := by
  obtain ⟨hl, hf⟩ := reads_array Tryz.underlying23 h
  rw [show Tryz.prog.cellsOf 23 = 6 from by kernel_rfl] at hl
  simp only [show Tryz.prog.cellsOf 3 = 1 from by kernel_rfl] at hf
  obtain ⟨v0, r0⟩ := cells_int Tryz.underlying3 (hf 0 (by decide))
  obtain ⟨v1, r1⟩ := cells_int Tryz.underlying3 (hf 1 (by decide))
  obtain ⟨v2, r2⟩ := cells_int Tryz.underlying3 (hf 2 (by decide))
  obtain ⟨v3, r3⟩ := cells_int Tryz.underlying3 (hf 3 (by decide))
  obtain ⟨v4, r4⟩ := cells_int Tryz.underlying3 (hf 4 (by decide))
  obtain ⟨v5, r5⟩ := cells_int Tryz.underlying3 (hf 5 (by decide))
  exact ⟨⟨v0, v1, v2, v3, v4, v5⟩, reps_cut (o := 0) (k := 1) r0 (reps_cut (o := 1) (k := 1) r1 (reps_cut (o := 2) (k := 1) r2 (reps_cut (o := 3) (k := 1) r3 (reps_cut (o := 4) (k := 1) r4 (reps_cut (o := 5) (k := 1) r5 (reps_end hl))))))⟩
theorem ref_cells (w : World) : Cells Tryz.prog w 48 rD (fun _ => True) := by
  intro es h
  obtain ⟨hl, hf⟩ := h.struct Tryz.underlying48
  rw [show Tryz.prog.cellsOf 48 = 3 from by kernel_rfl] at hl
  have h0 := hf _ (List.mem_cons_self ..)
  simp only [show Tryz.prog.cellsOf 3 = 1 from by kernel_rfl] at h0
  obtain ⟨v0, r0⟩ := cells_int Tryz.underlying3 h0
  have h1 := hf _ (List.mem_cons_of_mem _ (List.mem_cons_self ..))
  simp only [show Tryz.prog.cellsOf 9 = 1 from by kernel_rfl] at h1
  obtain ⟨v1, r1⟩ := cells_str Tryz.underlying9 h1
  have h2 := hf _ (List.mem_cons_of_mem _ (List.mem_cons_of_mem _ (List.mem_cons_self ..)))
  simp only [show Tryz.prog.cellsOf 9 = 1 from by kernel_rfl] at h2
  obtain ⟨v2, r2⟩ := cells_str Tryz.underlying9 h2
  exact ⟨⟨v0, v1, v2⟩, reps_cut (o := 0) (k := 1) r0 (reps_cut (o := 1) (k := 1) r1 (reps_cut (o := 2) (k := 1) r2 (reps_end hl))), trivial⟩
theorem pair_cells (w : World) : Cells Tryz.prog w 160 pairD (fun _ => True) := by
  intro es h
  obtain ⟨hl, hf⟩ := h.struct Tryz.underlying160
  rw [show Tryz.prog.cellsOf 160 = 2 from by kernel_rfl] at hl
  have h0 := hf _ (List.mem_cons_self ..)
  simp only [show Tryz.prog.cellsOf 9 = 1 from by kernel_rfl] at h0
  obtain ⟨v0, r0⟩ := cells_str Tryz.underlying9 h0
  have h1 := hf _ (List.mem_cons_of_mem _ (List.mem_cons_self ..))
  simp only [show Tryz.prog.cellsOf 9 = 1 from by kernel_rfl] at h1
  obtain ⟨v1, r1⟩ := cells_str Tryz.underlying9 h1
  exact ⟨(v0, v1), reps_cut (o := 0) (k := 1) r0 (reps_cut (o := 1) (k := 1) r1 (reps_end hl)), trivial⟩
theorem field_cells (w : World) : Cells Tryz.prog w 53 fD (fun _ => True) := by
  intro es h
  obtain ⟨hl, hf⟩ := h.struct Tryz.underlying53
  rw [show Tryz.prog.cellsOf 53 = 7 from by kernel_rfl] at hl
  have h0 := hf _ (List.mem_cons_self ..)
  simp only [show Tryz.prog.cellsOf 48 = 3 from by kernel_rfl] at h0
  obtain ⟨v0, r0, _⟩ := ref_cells w _ h0
  have h1 := hf _ (List.mem_cons_of_mem _ (List.mem_cons_self ..))
  simp only [show Tryz.prog.cellsOf 3 = 1 from by kernel_rfl] at h1
  obtain ⟨v1, r1⟩ := cells_int Tryz.underlying3 h1
  have h2 := hf _ (List.mem_cons_of_mem _ (List.mem_cons_of_mem _ (List.mem_cons_self ..)))
  simp only [show Tryz.prog.cellsOf 9 = 1 from by kernel_rfl] at h2
  obtain ⟨v2, r2⟩ := cells_str Tryz.underlying9 h2
  have h3 := hf _ (List.mem_cons_of_mem _ (List.mem_cons_of_mem _ (List.mem_cons_of_mem _ (List.mem_cons_self ..))))
  simp only [show Tryz.prog.cellsOf 51 = 1 from by kernel_rfl] at h3
  obtain ⟨v3, r3⟩ := cells_row Tryz.underlying51 (show Tryz.prog.cellsOf 9 = 1 from by kernel_rfl) (by omega) (fun _ => rfl) (str_cells w) h3
  have h4 := hf _ (List.mem_cons_of_mem _ (List.mem_cons_of_mem _ (List.mem_cons_of_mem _ (List.mem_cons_of_mem _ (List.mem_cons_self ..)))))
  simp only [show Tryz.prog.cellsOf 2 = 1 from by kernel_rfl] at h4
  obtain ⟨v4, r4⟩ := cells_int Tryz.underlying2 h4
  exact ⟨⟨v0, v1, v2, v3, v4⟩, reps_cut (o := 0) (k := 3) r0 (reps_cut (o := 3) (k := 1) r1 (reps_cut (o := 4) (k := 1) r2 (reps_cut (o := 5) (k := 1) r3 (reps_cut (o := 6) (k := 1) r4 (reps_end hl))))), trivial⟩
theorem lens_cells (w : World) : Cells Tryz.prog w 56 lD (fun _ => True) := by
  intro es h
  obtain ⟨hl, hf⟩ := h.struct Tryz.underlying56
  rw [show Tryz.prog.cellsOf 56 = 16 from by kernel_rfl] at hl
  have h0 := hf _ (List.mem_cons_self ..)
  simp only [show Tryz.prog.cellsOf 3 = 1 from by kernel_rfl] at h0
  obtain ⟨v0, r0⟩ := cells_int Tryz.underlying3 h0
  have h1 := hf _ (List.mem_cons_of_mem _ (List.mem_cons_self ..))
  simp only [show Tryz.prog.cellsOf 48 = 3 from by kernel_rfl] at h1
  obtain ⟨v1, r1, _⟩ := ref_cells w _ h1
  have h2 := hf _ (List.mem_cons_of_mem _ (List.mem_cons_of_mem _ (List.mem_cons_self ..)))
  simp only [show Tryz.prog.cellsOf 9 = 1 from by kernel_rfl] at h2
  obtain ⟨v2, r2⟩ := cells_str Tryz.underlying9 h2
  have h3 := hf _ (List.mem_cons_of_mem _ (List.mem_cons_of_mem _ (List.mem_cons_of_mem _ (List.mem_cons_self ..))))
  simp only [show Tryz.prog.cellsOf 9 = 1 from by kernel_rfl] at h3
  obtain ⟨v3, r3⟩ := cells_str Tryz.underlying9 h3
  have h4 := hf _ (List.mem_cons_of_mem _ (List.mem_cons_of_mem _ (List.mem_cons_of_mem _ (List.mem_cons_of_mem _ (List.mem_cons_self ..)))))
  simp only [show Tryz.prog.cellsOf 2 = 1 from by kernel_rfl] at h4
  obtain ⟨v4, r4⟩ := cells_int Tryz.underlying2 h4
  have h5 := hf _ (List.mem_cons_of_mem _ (List.mem_cons_of_mem _ (List.mem_cons_of_mem _ (List.mem_cons_of_mem _ (List.mem_cons_of_mem _ (List.mem_cons_self ..))))))
  simp only [show Tryz.prog.cellsOf 53 = 7 from by kernel_rfl] at h5
  obtain ⟨v5, r5, _⟩ := field_cells w _ h5
  have h6 := hf _ (List.mem_cons_of_mem _ (List.mem_cons_of_mem _ (List.mem_cons_of_mem _ (List.mem_cons_of_mem _ (List.mem_cons_of_mem _ (List.mem_cons_of_mem _ (List.mem_cons_self ..)))))))
  simp only [show Tryz.prog.cellsOf 54 = 1 from by kernel_rfl] at h6
  obtain ⟨v6, r6⟩ := cells_row Tryz.underlying54 (show Tryz.prog.cellsOf 160 = 2 from by kernel_rfl) (by omega) (fun _ => rfl) (pair_cells w) h6
  have h7 := hf _ (List.mem_cons_of_mem _ (List.mem_cons_of_mem _ (List.mem_cons_of_mem _ (List.mem_cons_of_mem _ (List.mem_cons_of_mem _ (List.mem_cons_of_mem _ (List.mem_cons_of_mem _ (List.mem_cons_self ..))))))))
  simp only [show Tryz.prog.cellsOf 54 = 1 from by kernel_rfl] at h7
  obtain ⟨v7, r7⟩ := cells_row Tryz.underlying54 (show Tryz.prog.cellsOf 160 = 2 from by kernel_rfl) (by omega) (fun _ => rfl) (pair_cells w) h7
  exact ⟨⟨v0, v1, v2, v3, v4, v5, v6, v7⟩, reps_cut (o := 0) (k := 1) r0 (reps_cut (o := 1) (k := 3) r1 (reps_cut (o := 4) (k := 1) r2 (reps_cut (o := 5) (k := 1) r3 (reps_cut (o := 6) (k := 1) r4 (reps_cut (o := 7) (k := 7) r5 (reps_cut (o := 14) (k := 1) r6 (reps_cut (o := 15) (k := 1) r7 (reps_end hl)))))))), trivial⟩
theorem tag_cells (w : World) : Cells Tryz.prog w 50 tD (fun _ => True) := by
  intro es h
  obtain ⟨hl, hf⟩ := h.struct Tryz.underlying50
  rw [show Tryz.prog.cellsOf 50 = 2 from by kernel_rfl] at hl
  have h0 := hf _ (List.mem_cons_self ..)
  simp only [show Tryz.prog.cellsOf 3 = 1 from by kernel_rfl] at h0
  obtain ⟨v0, r0⟩ := cells_int Tryz.underlying3 h0
  have h1 := hf _ (List.mem_cons_of_mem _ (List.mem_cons_self ..))
  simp only [show Tryz.prog.cellsOf 3 = 1 from by kernel_rfl] at h1
  obtain ⟨v1, r1⟩ := cells_int Tryz.underlying3 h1
  exact ⟨⟨v0, v1⟩, reps_cut (o := 0) (k := 1) r0 (reps_cut (o := 1) (k := 1) r1 (reps_end hl)), trivial⟩
theorem edge_cells (w : World) : Cells Tryz.prog w 101 eD (fun _ => True) := by
  intro es h
  obtain ⟨hl, hf⟩ := h.struct Tryz.underlying101
  rw [show Tryz.prog.cellsOf 101 = 20 from by kernel_rfl] at hl
  have h0 := hf _ (List.mem_cons_self ..)
  simp only [show Tryz.prog.cellsOf 50 = 2 from by kernel_rfl] at h0
  obtain ⟨v0, r0, _⟩ := tag_cells w _ h0
  have h1 := hf _ (List.mem_cons_of_mem _ (List.mem_cons_self ..))
  simp only [show Tryz.prog.cellsOf 50 = 2 from by kernel_rfl] at h1
  obtain ⟨v1, r1, _⟩ := tag_cells w _ h1
  have h2 := hf _ (List.mem_cons_of_mem _ (List.mem_cons_of_mem _ (List.mem_cons_self ..)))
  simp only [show Tryz.prog.cellsOf 56 = 16 from by kernel_rfl] at h2
  obtain ⟨v2, r2, _⟩ := lens_cells w _ h2
  exact ⟨⟨v0, v1, v2⟩, reps_cut (o := 0) (k := 2) r0 (reps_cut (o := 2) (k := 2) r1 (reps_cut (o := 4) (k := 16) r2 (reps_end hl))), trivial⟩
theorem op_cells (w : World) : Cells Tryz.prog w 121 oD (fun _ => True) := by
  intro es h
  obtain ⟨hl, hf⟩ := h.struct Tryz.underlying121
  rw [show Tryz.prog.cellsOf 121 = 15 from by kernel_rfl] at hl
  have h0 := hf _ (List.mem_cons_self ..)
  simp only [show Tryz.prog.cellsOf 50 = 2 from by kernel_rfl] at h0
  obtain ⟨v0, r0, _⟩ := tag_cells w _ h0
  have h1 := hf _ (List.mem_cons_of_mem _ (List.mem_cons_self ..))
  simp only [show Tryz.prog.cellsOf 50 = 2 from by kernel_rfl] at h1
  obtain ⟨v1, r1, _⟩ := tag_cells w _ h1
  have h2 := hf _ (List.mem_cons_of_mem _ (List.mem_cons_of_mem _ (List.mem_cons_self ..)))
  simp only [show Tryz.prog.cellsOf 2 = 1 from by kernel_rfl] at h2
  obtain ⟨v2, r2⟩ := cells_int Tryz.underlying2 h2
  have h3 := hf _ (List.mem_cons_of_mem _ (List.mem_cons_of_mem _ (List.mem_cons_of_mem _ (List.mem_cons_self ..))))
  simp only [show Tryz.prog.cellsOf 9 = 1 from by kernel_rfl] at h3
  obtain ⟨v3, r3⟩ := cells_str Tryz.underlying9 h3
  have h4 := hf _ (List.mem_cons_of_mem _ (List.mem_cons_of_mem _ (List.mem_cons_of_mem _ (List.mem_cons_of_mem _ (List.mem_cons_self ..)))))
  simp only [show Tryz.prog.cellsOf 3 = 1 from by kernel_rfl] at h4
  obtain ⟨v4, r4⟩ := cells_int Tryz.underlying3 h4
  have h5 := hf _ (List.mem_cons_of_mem _ (List.mem_cons_of_mem _ (List.mem_cons_of_mem _ (List.mem_cons_of_mem _ (List.mem_cons_of_mem _ (List.mem_cons_self ..))))))
  simp only [show Tryz.prog.cellsOf 9 = 1 from by kernel_rfl] at h5
  obtain ⟨v5, r5⟩ := cells_str Tryz.underlying9 h5
  have h6 := hf _ (List.mem_cons_of_mem _ (List.mem_cons_of_mem _ (List.mem_cons_of_mem _ (List.mem_cons_of_mem _ (List.mem_cons_of_mem _ (List.mem_cons_of_mem _ (List.mem_cons_self ..)))))))
  simp only [show Tryz.prog.cellsOf 48 = 3 from by kernel_rfl] at h6
  obtain ⟨v6, r6, _⟩ := ref_cells w _ h6
  have h7 := hf _ (List.mem_cons_of_mem _ (List.mem_cons_of_mem _ (List.mem_cons_of_mem _ (List.mem_cons_of_mem _ (List.mem_cons_of_mem _ (List.mem_cons_of_mem _ (List.mem_cons_of_mem _ (List.mem_cons_self ..))))))))
  simp only [show Tryz.prog.cellsOf 2 = 1 from by kernel_rfl] at h7
  obtain ⟨v7, r7⟩ := cells_int Tryz.underlying2 h7
  have h8 := hf _ (List.mem_cons_of_mem _ (List.mem_cons_of_mem _ (List.mem_cons_of_mem _ (List.mem_cons_of_mem _ (List.mem_cons_of_mem _ (List.mem_cons_of_mem _ (List.mem_cons_of_mem _ (List.mem_cons_of_mem _ (List.mem_cons_self ..)))))))))
  simp only [show Tryz.prog.cellsOf 4 = 1 from by kernel_rfl] at h8
  obtain ⟨v8, r8⟩ := cells_bool Tryz.underlying4 h8
  have h9 := hf _ (List.mem_cons_of_mem _ (List.mem_cons_of_mem _ (List.mem_cons_of_mem _ (List.mem_cons_of_mem _ (List.mem_cons_of_mem _ (List.mem_cons_of_mem _ (List.mem_cons_of_mem _ (List.mem_cons_of_mem _ (List.mem_cons_of_mem _ (List.mem_cons_self ..))))))))))
  simp only [show Tryz.prog.cellsOf 9 = 1 from by kernel_rfl] at h9
  obtain ⟨v9, r9⟩ := cells_str Tryz.underlying9 h9
  have h10 := hf _ (List.mem_cons_of_mem _ (List.mem_cons_of_mem _ (List.mem_cons_of_mem _ (List.mem_cons_of_mem _ (List.mem_cons_of_mem _ (List.mem_cons_of_mem _ (List.mem_cons_of_mem _ (List.mem_cons_of_mem _ (List.mem_cons_of_mem _ (List.mem_cons_of_mem _ (List.mem_cons_self ..)))))))))))
  simp only [show Tryz.prog.cellsOf 24 = 1 from by kernel_rfl] at h10
  obtain ⟨v10, r10⟩ := cells_row Tryz.underlying24 (show Tryz.prog.cellsOf 50 = 2 from by kernel_rfl) (by omega) (fun _ => rfl) (tag_cells w) h10
  exact ⟨⟨v0, v1, v2, v3, v4, v5, v6, v7, v8, v9, v10⟩, reps_cut (o := 0) (k := 2) r0 (reps_cut (o := 2) (k := 2) r1 (reps_cut (o := 4) (k := 1) r2 (reps_cut (o := 5) (k := 1) r3 (reps_cut (o := 6) (k := 1) r4 (reps_cut (o := 7) (k := 1) r5 (reps_cut (o := 8) (k := 3) r6 (reps_cut (o := 11) (k := 1) r7 (reps_cut (o := 12) (k := 1) r8 (reps_cut (o := 13) (k := 1) r9 (reps_cut (o := 14) (k := 1) r10 (reps_end hl))))))))))), trivial⟩
theorem note_cells (w : World) : Cells Tryz.prog w 28 noteD (fun _ => True) := by
  intro es h
  obtain ⟨hl, hf⟩ := h.struct Tryz.underlying28
  rw [show Tryz.prog.cellsOf 28 = 12 from by kernel_rfl] at hl
  have h0 := hf _ (List.mem_cons_self ..)
  simp only [show Tryz.prog.cellsOf 3 = 1 from by kernel_rfl] at h0
  obtain ⟨v0, r0⟩ := cells_int Tryz.underlying3 h0
  have h1 := hf _ (List.mem_cons_of_mem _ (List.mem_cons_self ..))
  simp only [show Tryz.prog.cellsOf 3 = 1 from by kernel_rfl] at h1
  obtain ⟨v1, r1⟩ := cells_int Tryz.underlying3 h1
  have h2 := hf _ (List.mem_cons_of_mem _ (List.mem_cons_of_mem _ (List.mem_cons_self ..)))
  simp only [show Tryz.prog.cellsOf 3 = 1 from by kernel_rfl] at h2
  obtain ⟨v2, r2⟩ := cells_int Tryz.underlying3 h2
  have h3 := hf _ (List.mem_cons_of_mem _ (List.mem_cons_of_mem _ (List.mem_cons_of_mem _ (List.mem_cons_self ..))))
  simp only [show Tryz.prog.cellsOf 23 = 6 from by kernel_rfl] at h3
  obtain ⟨v3, r3⟩ := vec_cells w _ h3
  have h4 := hf _ (List.mem_cons_of_mem _ (List.mem_cons_of_mem _ (List.mem_cons_of_mem _ (List.mem_cons_of_mem _ (List.mem_cons_self ..)))))
  simp only [show Tryz.prog.cellsOf 24 = 1 from by kernel_rfl] at h4
  obtain ⟨v4, r4⟩ := cells_row Tryz.underlying24 (show Tryz.prog.cellsOf 50 = 2 from by kernel_rfl) (by omega) (fun _ => rfl) (tag_cells w) h4
  have h5 := hf _ (List.mem_cons_of_mem _ (List.mem_cons_of_mem _ (List.mem_cons_of_mem _ (List.mem_cons_of_mem _ (List.mem_cons_of_mem _ (List.mem_cons_self ..))))))
  simp only [show Tryz.prog.cellsOf 25 = 1 from by kernel_rfl] at h5
  obtain ⟨v5, r5⟩ := cells_row Tryz.underlying25 (show Tryz.prog.cellsOf 101 = 20 from by kernel_rfl) (by omega) (fun _ => rfl) (edge_cells w) h5
  have h6 := hf _ (List.mem_cons_of_mem _ (List.mem_cons_of_mem _ (List.mem_cons_of_mem _ (List.mem_cons_of_mem _ (List.mem_cons_of_mem _ (List.mem_cons_of_mem _ (List.mem_cons_self ..)))))))
  simp only [show Tryz.prog.cellsOf 26 = 1 from by kernel_rfl] at h6
  obtain ⟨v6, r6⟩ := cells_row Tryz.underlying26 (show Tryz.prog.cellsOf 121 = 15 from by kernel_rfl) (by omega) (fun _ => rfl) (op_cells w) h6
  exact ⟨⟨v0, v1, v2, v3, v4, v5, v6⟩, reps_cut (o := 0) (k := 1) r0 (reps_cut (o := 1) (k := 1) r1 (reps_cut (o := 2) (k := 1) r2 (reps_cut (o := 3) (k := 6) r3 (reps_cut (o := 9) (k := 1) r4 (reps_cut (o := 10) (k := 1) r5 (reps_cut (o := 11) (k := 1) r6 (reps_end hl))))))), trivial⟩
end Go.Vm
end
section
namespace Go.Rn
open Go.RowKit
open Go.Vm (enters NoteD noteD noteC heavyN allFrozen)
set_option maxRecDepth 1000000
abbrev noteV : V := .agg [.opq 0, .opq 1, .opq 2, .opq 3, .opq 4, .opq 5, .opq 6, .opq 7, .opq 8, .opq 9, .opq 10, .opq 11]
abbrev orcN (b : Bool) : Orc := (6, [noteV], .sc (.bool b)) :: (5, [], .sc (.bool true)) :: orcS
set_option maxHeartbeats 100000000 in
theorem peerNil_run (b : Bool) (a : Int) : Hold (run Go.Proofs.Tryz.prog ft (orcN b) 1000000 1000 3 [noteV, .sc (.int .i64 a)] .leaf 0 (fun v _ _ => isTrue v)) := by
  cases b
  · exact ⟨of_eq_true (by kernel_rfl)⟩
  · exact ⟨of_eq_true (by kernel_rfl)⟩
end Go.Rn
namespace Go.Proofs.YtiflplmdehiomaaGreat
open Go.RowKit Go.Rn
open Go.Vm (NoteD noteD noteC heavyN allFrozen note_cells noteHeavy_any rep_agg)
theorem peerNil_walk (s0 : Array Value) (a1 : Int) (w : World) (r0 : Reads Tryz.prog w 28 s0.toList) (w1 : (Lit.int .i64 a1).wf = true) :
    Calls Tryz.prog 3 #[.agg s0, .int .i64 a1] w fun e w' => e = .returned (.bool true) ∧ Below w.heap.size w w' := by
  obtain ⟨n, hn, _⟩ := note_cells w _ r0
  have hl : s0.toList.length = 12 := hn.1
  obtain ⟨OP, hOP⟩ : ∃ OP : Nat → Value, s0.toList = [OP 0, OP 1, OP 2, OP 3, OP 4, OP 5, OP 6, OP 7, OP 8, OP 9, OP 10, OP 11] := by
    refine ⟨fun i => s0.toList.getD i undef, ?_⟩
    match h : s0.toList, hl with
    | [x0, x1, x2, x3, x4, x5, x6, x7, x8, x9, x10, x11], _ => rfl
  have h1 : ∀ i, i < 12 → (OP i).oneCell' = true := by
    intro i hi
    refine hn.2.1 (OP i) ?_
    rw [hOP]
    have : ∀ i, i < 12 → OP i ∈ [OP 0, OP 1, OP 2, OP 3, OP 4, OP 5, OP 6, OP 7, OP 8, OP 9, OP 10, OP 11] := by
      intro i hi
      match i, hi with
      | 0, _ => simp
      | 1, _ => simp
      | 2, _ => simp
      | 3, _ => simp
      | 4, _ => simp
      | 5, _ => simp
      | 6, _ => simp
      | 7, _ => simp
      | 8, _ => simp
      | 9, _ => simp
      | 10, _ => simp
      | 11, _ => simp
      | i + 12, h => omega
    exact this i hi
  have ha : conc (noPi OP) noteV = some (.agg s0) := by
    have e : s0 = #[OP 0, OP 1, OP 2, OP 3, OP 4, OP 5, OP 6, OP 7, OP 8, OP 9, OP 10, OP 11] := by rw [← hOP]
    rw [e]
    exact conc_opqs (π := noPi OP) (l := [0, 1, 2, 3, 4, 5, 6, 7, 8, 9, 10, 11]) fun i hi => h1 i (by simp at hi; omega)
  have hargs : concL (noPi OP) [noteV, .sc (.int .i64 a1)] = some [.agg s0, .int .i64 a1] := by
    rw [concL, ha, concL, conc, if_pos (show (Value.int .i64 a1).oneCell' = true from rfl), concL]
  have hheavy := noteHeavy_any n
  have hout := fun (b : Bool) (hb : heavyN n = b) => @run_hold (lawCx w OP) Tryz.prog ft ft_ok (orcN b) (by
    letI := lawCx w OP
    refine orcOk_cons (by kernel_rfl) (fun h k => ?_) (orcOk_cons awake31_known.1 awake31_known.2 orcS_ok)
    rw [hb] at hheavy
    refine orc_pure rfl hheavy (us := [.agg s0]) (by rw [concL, ha, concL]) rfl ?_ h k
    intro i u d hu hd
    cases i with
    | zero => simp at hu hd; subst hu hd; exact rep_agg hn
    | succ i => simp at hu) 1000000 1000 _ _ _ _ _ (peerNil_run b a1)
  obtain ⟨v, m', n', q1, q2, q3⟩ := hout _ rfl
  rw [isTrue_spec q3] at q2
  exact law_run q2 hargs
end Go.Proofs.YtiflplmdehiomaaGreat
end
