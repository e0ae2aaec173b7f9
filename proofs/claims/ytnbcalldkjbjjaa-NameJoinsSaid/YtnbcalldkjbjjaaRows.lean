/-
  No cell of these rows narrows 'for every input' (looked for: loops, veiled, ifaces, maps, wideKeys, modest, calm, conditions, laid).
  DERIVED. THE GIVEN ROWS OF THIS SEAT. 4 by the template 'for every input the law returns true; each argument reads behind the call as it read before'; 0 by the template 'total and deterministic' (their statements: YtnbcalldkjbjjaaTotals.lean).
  GIVEN WITH THE SEED: the statements are not yours to turn. If you find one false, say at which input.
  Laid BY PROGRAM, IN A SANDBOX (cutbox-rows.mjs): the forced cells as the released guide's own fill.sh prints them over the translation d790aea28dd403a1… (all of the seat's roots in one cut). By AI agents, Wed Nov 11 2026. No macro, syntax, notation, axiom, sorry.
-/
import Derived.Test.YtnbcalldkjbjjaaChecked
import GoSem.Claim
import GoSem.ClaimJoined
import GoSem.ClaimMapViews
import Derived.JoinedTies
import Derived.KernelRfl
namespace Go.Proofs.Ytnbcalldkjbjjaa
/- THE CELL 'sum', in the pinned program and in every row, IS THE sha256 OF THE DUMP (.gsa) THAT YtnbcalldkjbjjaaProg.lean LOADS. Nothing in Lean hashes anything: it is a label: what it is worth is what the hold of that sum in a sandbox is worth. -/
noncomputable def Try.pinned : Pinned := { name := "ytnbcalldkjbjjaa", sum := "d790aea28dd403a1e4fb43c2d8bab8a8b3e44dad7bb3b66651db01b5e27e7448", checked := Try.checked }
namespace Rows
def none {H : Type} : Left H := { results := [], args := [] }

/-- 'punnetlaw05.NameSplits': WHATEVER THE INPUT: true; the input reads as it did. -/
def nameSplitsSpec : ChangeSpec := { name := "nameSplits", fn := fun _ => fun
  | [d] => { results := [.lit (.bool true)], args := [d] }
  | _ => none }
def nameSplitsRow : OpenClaim := { program := "ytnbcalldkjbjjaa", sum := "d790aea28dd403a1e4fb43c2d8bab8a8b3e44dad7bb3b66651db01b5e27e7448", func := "punnet/punnetlaw05.NameSplits", spec := "nameSplits", apart := false }
def NameSplitsSaid : Prop := nameSplitsRow.holds Try.pinned (OpenSpec.ofChange nameSplitsSpec)

/-- ITS FALSE NEIGHBOUR: 'it returns false'. Refute it at one input. -/
def nameSplitsWrong : ChangeSpec := { name := "nameSplits", fn := fun _ => fun
  | [d] => { results := [.lit (.bool false)], args := [d] }
  | _ => none }
def NameSplitsWrongFalsely : Prop := nameSplitsRow.holds Try.pinned (OpenSpec.ofChange nameSplitsWrong)

/-- 'punnetlaw05.NameJoins': WHATEVER THE INPUT: true; the input reads as it did. -/
def nameJoinsSpec : ChangeSpec := { name := "nameJoins", fn := fun _ => fun
  | [d] => { results := [.lit (.bool true)], args := [d] }
  | _ => none }
def nameJoinsRow : OpenClaim := { program := "ytnbcalldkjbjjaa", sum := "d790aea28dd403a1e4fb43c2d8bab8a8b3e44dad7bb3b66651db01b5e27e7448", func := "punnet/punnetlaw05.NameJoins", spec := "nameJoins", apart := false }
def NameJoinsSaid : Prop := nameJoinsRow.holds Try.pinned (OpenSpec.ofChange nameJoinsSpec)

/-- ITS FALSE NEIGHBOUR: 'it returns false'. Refute it at one input. -/
def nameJoinsWrong : ChangeSpec := { name := "nameJoins", fn := fun _ => fun
  | [d] => { results := [.lit (.bool false)], args := [d] }
  | _ => none }
def NameJoinsWrongFalsely : Prop := nameJoinsRow.holds Try.pinned (OpenSpec.ofChange nameJoinsWrong)

/-- 'punnetlaw05.NameQuotes': WHATEVER THE INPUT: true; the input reads as it did. -/
def nameQuotesSpec : ChangeSpec := { name := "nameQuotes", fn := fun _ => fun
  | [d1, d2, d3] => { results := [.lit (.bool true)], args := [d1, d2, d3] }
  | _ => none }
def nameQuotesRow : OpenClaim := { program := "ytnbcalldkjbjjaa", sum := "d790aea28dd403a1e4fb43c2d8bab8a8b3e44dad7bb3b66651db01b5e27e7448", func := "punnet/punnetlaw05.NameQuotes", spec := "nameQuotes", apart := false }
def NameQuotesSaid : Prop := nameQuotesRow.holds Try.pinned (OpenSpec.ofChange nameQuotesSpec)

/-- ITS FALSE NEIGHBOUR: 'it returns false'. Refute it at one input. -/
def nameQuotesWrong : ChangeSpec := { name := "nameQuotes", fn := fun _ => fun
  | [d1, d2, d3] => { results := [.lit (.bool false)], args := [d1, d2, d3] }
  | _ => none }
def NameQuotesWrongFalsely : Prop := nameQuotesRow.holds Try.pinned (OpenSpec.ofChange nameQuotesWrong)

/-- 'punnetlaw05.NameScans': WHATEVER THE INPUT: true; the input reads as it did. -/
def nameScansSpec : ChangeSpec := { name := "nameScans", fn := fun _ => fun
  | [d1, d2] => { results := [.lit (.bool true)], args := [d1, d2] }
  | _ => none }
def nameScansRow : OpenClaim := { program := "ytnbcalldkjbjjaa", sum := "d790aea28dd403a1e4fb43c2d8bab8a8b3e44dad7bb3b66651db01b5e27e7448", func := "punnet/punnetlaw05.NameScans", spec := "nameScans", apart := false }
def NameScansSaid : Prop := nameScansRow.holds Try.pinned (OpenSpec.ofChange nameScansSpec)

/-- ITS FALSE NEIGHBOUR: 'it returns false'. Refute it at one input. -/
def nameScansWrong : ChangeSpec := { name := "nameScans", fn := fun _ => fun
  | [d1, d2] => { results := [.lit (.bool false)], args := [d1, d2] }
  | _ => none }
def NameScansWrongFalsely : Prop := nameScansRow.holds Try.pinned (OpenSpec.ofChange nameScansWrong)

/- THE SECOND FORM. 'bulk': how many values and letters a reading holds, each counted each time it is reached (what is shared counts as often as it is met; a slice's spare places count too). A statement '..UptoSaid' is the law's where the arguments, and the package variables that the reading takes, are together of bulk at most 1048576: NARROWER than '..Said'. Prove '..Said' where nothing that the law and all that it calls make is longer than what came in: it says more and counts as full. Else prove '..UptoSaid'. A law counts once. -/
mutual
def uptoBulk {H : Type} : DataW H → Nat
  | .lit (.string bytes) => bytes.length + 1
  | .lit _ => 1
  | .nil => 1
  | .ptr d => uptoBulk d + 1
  | .slice elems spare => uptoBulkAll elems + uptoBulkAll spare + 1
  | .agg parts => uptoBulkAll parts + 1
  | .iface _ d => uptoBulk d + 1
  | .map entries => uptoBulkEntries entries + 1
  | .held _ => 1
def uptoBulkAll {H : Type} : List (DataW H) → Nat
  | [] => 0
  | d :: r => uptoBulk d + uptoBulkAll r
def uptoBulkEntries {H : Type} : List (Lit × DataW H) → Nat
  | [] => 0
  | x :: r => uptoBulkEntry x + uptoBulkEntries r
def uptoBulkEntry {H : Type} : Lit × DataW H → Nat
  | (.string bytes, d) => bytes.length + uptoBulk d + 1
  | (_, d) => uptoBulk d + 1
 end
def uptoSmall : (H : Type) → List (DataW H) → Bool := fun _ ds => decide (uptoBulkAll ds ≤ 1048576)
def OpenSpec.upto (s : _root_.Go.ChangeSpec) : _root_.Go.OpenSpec := { _root_.Go.OpenSpec.ofChange s with cond := some uptoSmall }

/-- 'punnetlaw05.NameSplits', WHERE WHAT IT READS IS OF BULK AT MOST 1048576: true; the input reads as it did. -/
def nameSplitsUptoRow : OpenClaim := { program := "ytnbcalldkjbjjaa", sum := "d790aea28dd403a1e4fb43c2d8bab8a8b3e44dad7bb3b66651db01b5e27e7448", func := "punnet/punnetlaw05.NameSplits", spec := "nameSplits", apart := false, narrowed := true }
def NameSplitsUptoSaid : Prop := nameSplitsUptoRow.holds Try.pinned (OpenSpec.upto nameSplitsSpec)

/-- 'punnetlaw05.NameJoins', WHERE WHAT IT READS IS OF BULK AT MOST 1048576: true; the input reads as it did. -/
def nameJoinsUptoRow : OpenClaim := { program := "ytnbcalldkjbjjaa", sum := "d790aea28dd403a1e4fb43c2d8bab8a8b3e44dad7bb3b66651db01b5e27e7448", func := "punnet/punnetlaw05.NameJoins", spec := "nameJoins", apart := false, narrowed := true }
def NameJoinsUptoSaid : Prop := nameJoinsUptoRow.holds Try.pinned (OpenSpec.upto nameJoinsSpec)

/-- 'punnetlaw05.NameQuotes', WHERE WHAT IT READS IS OF BULK AT MOST 1048576: true; the input reads as it did. -/
def nameQuotesUptoRow : OpenClaim := { program := "ytnbcalldkjbjjaa", sum := "d790aea28dd403a1e4fb43c2d8bab8a8b3e44dad7bb3b66651db01b5e27e7448", func := "punnet/punnetlaw05.NameQuotes", spec := "nameQuotes", apart := false, narrowed := true }
def NameQuotesUptoSaid : Prop := nameQuotesUptoRow.holds Try.pinned (OpenSpec.upto nameQuotesSpec)

/-- 'punnetlaw05.NameScans', WHERE WHAT IT READS IS OF BULK AT MOST 1048576: true; the input reads as it did. -/
def nameScansUptoRow : OpenClaim := { program := "ytnbcalldkjbjjaa", sum := "d790aea28dd403a1e4fb43c2d8bab8a8b3e44dad7bb3b66651db01b5e27e7448", func := "punnet/punnetlaw05.NameScans", spec := "nameScans", apart := false, narrowed := true }
def NameScansUptoSaid : Prop := nameScansUptoRow.holds Try.pinned (OpenSpec.upto nameScansSpec)

end Rows
end Go.Proofs.Ytnbcalldkjbjjaa
