/-
  No cell of these rows narrows 'for every input' (looked for: loops, veiled, ifaces, maps, wideKeys, modest, calm, conditions, laid).
  DERIVED. THE GIVEN ROWS OF THIS SEAT. 5 by the template 'for every input the law returns true; each argument reads behind the call as it read before'; 0 by the template 'total and deterministic' (their statements: YtheafphhgacpfaaTotals.lean).
  GIVEN WITH THE SEED: the statements are not yours to turn. If you find one false, say at which input.
  Laid BY PROGRAM, IN A SANDBOX (cutbox-rows.mjs): the forced cells as the released guide's own fill.sh prints them over the translation da66112890c80633… (all of the seat's roots in one cut). By AI agents, Wed Nov 11 2026. No macro, syntax, notation, axiom, sorry.
-/
import Derived.Test.YtheafphhgacpfaaChecked
import GoSem.Claim
import GoSem.ClaimJoined
import GoSem.ClaimMapViews
import Derived.JoinedTies
import Derived.KernelRfl
namespace Go.Proofs.Ytheafphhgacpfaa
/- THE CELL 'sum', in the pinned program and in every row, IS THE sha256 OF THE DUMP (.gsa) THAT YtheafphhgacpfaaProg.lean LOADS. Nothing in Lean hashes anything: it is a label: what it is worth is what the hold of that sum in a sandbox is worth. -/
noncomputable def Try.pinned : Pinned := { name := "ytheafphhgacpfaa", sum := "da66112890c80633e5e0723c1036e29194b7954c8df503c4d2214d56cf5591f2", checked := Try.checked }
namespace Rows
def none {H : Type} : Left H := { results := [], args := [] }

/-- 'punnetlaw15.LensApplies': WHATEVER THE INPUT: true; the input reads as it did. -/
def lensAppliesSpec : ChangeSpec := { name := "lensApplies", fn := fun _ => fun
  | [d1, d2] => { results := [.lit (.bool true)], args := [d1, d2] }
  | _ => none }
def lensAppliesRow : OpenClaim := { program := "ytheafphhgacpfaa", sum := "da66112890c80633e5e0723c1036e29194b7954c8df503c4d2214d56cf5591f2", func := "punnet/punnetlaw15.LensApplies", spec := "lensApplies", apart := false }
def LensAppliesSaid : Prop := lensAppliesRow.holds Try.pinned (OpenSpec.ofChange lensAppliesSpec)

/-- ITS FALSE NEIGHBOUR: 'it returns false'. Refute it at one input. -/
def lensAppliesWrong : ChangeSpec := { name := "lensApplies", fn := fun _ => fun
  | [d1, d2] => { results := [.lit (.bool false)], args := [d1, d2] }
  | _ => none }
def LensAppliesWrongFalsely : Prop := lensAppliesRow.holds Try.pinned (OpenSpec.ofChange lensAppliesWrong)

/-- 'punnetlaw15.LensKeeps': WHATEVER THE INPUT: true; the input reads as it did. -/
def lensKeepsSpec : ChangeSpec := { name := "lensKeeps", fn := fun _ => fun
  | [d1, d2, d3] => { results := [.lit (.bool true)], args := [d1, d2, d3] }
  | _ => none }
def lensKeepsRow : OpenClaim := { program := "ytheafphhgacpfaa", sum := "da66112890c80633e5e0723c1036e29194b7954c8df503c4d2214d56cf5591f2", func := "punnet/punnetlaw15.LensKeeps", spec := "lensKeeps", apart := false }
def LensKeepsSaid : Prop := lensKeepsRow.holds Try.pinned (OpenSpec.ofChange lensKeepsSpec)

/-- ITS FALSE NEIGHBOUR: 'it returns false'. Refute it at one input. -/
def lensKeepsWrong : ChangeSpec := { name := "lensKeeps", fn := fun _ => fun
  | [d1, d2, d3] => { results := [.lit (.bool false)], args := [d1, d2, d3] }
  | _ => none }
def LensKeepsWrongFalsely : Prop := lensKeepsRow.holds Try.pinned (OpenSpec.ofChange lensKeepsWrong)

/-- 'punnetlaw15.LensCases': WHATEVER THE INPUT: true; the input reads as it did. -/
def lensCasesSpec : ChangeSpec := { name := "lensCases", fn := fun _ => fun
  | [d1, d2] => { results := [.lit (.bool true)], args := [d1, d2] }
  | _ => none }
def lensCasesRow : OpenClaim := { program := "ytheafphhgacpfaa", sum := "da66112890c80633e5e0723c1036e29194b7954c8df503c4d2214d56cf5591f2", func := "punnet/punnetlaw15.LensCases", spec := "lensCases", apart := false }
def LensCasesSaid : Prop := lensCasesRow.holds Try.pinned (OpenSpec.ofChange lensCasesSpec)

/-- ITS FALSE NEIGHBOUR: 'it returns false'. Refute it at one input. -/
def lensCasesWrong : ChangeSpec := { name := "lensCases", fn := fun _ => fun
  | [d1, d2] => { results := [.lit (.bool false)], args := [d1, d2] }
  | _ => none }
def LensCasesWrongFalsely : Prop := lensCasesRow.holds Try.pinned (OpenSpec.ofChange lensCasesWrong)

/-- 'punnetlaw15.LensRight': WHATEVER THE INPUT: true; the input reads as it did. -/
def lensRightSpec : ChangeSpec := { name := "lensRight", fn := fun _ => fun
  | [d1, d2] => { results := [.lit (.bool true)], args := [d1, d2] }
  | _ => none }
def lensRightRow : OpenClaim := { program := "ytheafphhgacpfaa", sum := "da66112890c80633e5e0723c1036e29194b7954c8df503c4d2214d56cf5591f2", func := "punnet/punnetlaw15.LensRight", spec := "lensRight", apart := false }
def LensRightSaid : Prop := lensRightRow.holds Try.pinned (OpenSpec.ofChange lensRightSpec)

/-- ITS FALSE NEIGHBOUR: 'it returns false'. Refute it at one input. -/
def lensRightWrong : ChangeSpec := { name := "lensRight", fn := fun _ => fun
  | [d1, d2] => { results := [.lit (.bool false)], args := [d1, d2] }
  | _ => none }
def LensRightWrongFalsely : Prop := lensRightRow.holds Try.pinned (OpenSpec.ofChange lensRightWrong)

/-- 'punnetlaw15.LensBytes': WHATEVER THE INPUT: true; the input reads as it did. -/
def lensBytesSpec : ChangeSpec := { name := "lensBytes", fn := fun _ => fun
  | [d1, d2, d3] => { results := [.lit (.bool true)], args := [d1, d2, d3] }
  | _ => none }
def lensBytesRow : OpenClaim := { program := "ytheafphhgacpfaa", sum := "da66112890c80633e5e0723c1036e29194b7954c8df503c4d2214d56cf5591f2", func := "punnet/punnetlaw15.LensBytes", spec := "lensBytes", apart := false }
def LensBytesSaid : Prop := lensBytesRow.holds Try.pinned (OpenSpec.ofChange lensBytesSpec)

/-- ITS FALSE NEIGHBOUR: 'it returns false'. Refute it at one input. -/
def lensBytesWrong : ChangeSpec := { name := "lensBytes", fn := fun _ => fun
  | [d1, d2, d3] => { results := [.lit (.bool false)], args := [d1, d2, d3] }
  | _ => none }
def LensBytesWrongFalsely : Prop := lensBytesRow.holds Try.pinned (OpenSpec.ofChange lensBytesWrong)

/- THE SECOND FORM. 'bulk': how many values and letters a reading holds, each counted each time it is reached (what is shared counts as often as it is met; a slice's spare places count too). A statement '..UptoSaid' is the law's where the arguments, and the package variables that the reading takes, are together of bulk at most 1048576: NARROWER than '..Said'. Prove '..Said' where nothing that the law and all that it calls make is longer than what came in: it says more and counts as full. Else prove '..UptoSaid'. A law counts once. -/
mutual
def uptoBulk {H : Type} : DataW H → Nat
  | .lit (.string bytes) => bytes.length + 1
  | .lit _ => 1
  | .nil => 1
  | .ptr d => uptoBulk d + 1
  | .slice elems spare => uptoBulkAll elems + uptoBulkAll spare + 1
  | .agg parts => uptoBulkAll parts + 1
  | .iface _ d => uptoBulk d + 1
  | .map entries => uptoBulkEntries entries + 1
  | .held _ => 1
def uptoBulkAll {H : Type} : List (DataW H) → Nat
  | [] => 0
  | d :: r => uptoBulk d + uptoBulkAll r
def uptoBulkEntries {H : Type} : List (Lit × DataW H) → Nat
  | [] => 0
  | x :: r => uptoBulkEntry x + uptoBulkEntries r
def uptoBulkEntry {H : Type} : Lit × DataW H → Nat
  | (.string bytes, d) => bytes.length + uptoBulk d + 1
  | (_, d) => uptoBulk d + 1
 end
def uptoSmall : (H : Type) → List (DataW H) → Bool := fun _ ds => decide (uptoBulkAll ds ≤ 1048576)
def OpenSpec.upto (s : _root_.Go.ChangeSpec) : _root_.Go.OpenSpec := { _root_.Go.OpenSpec.ofChange s with cond := some uptoSmall }

/-- 'punnetlaw15.LensApplies', WHERE WHAT IT READS IS OF BULK AT MOST 1048576: true; the input reads as it did. -/
def lensAppliesUptoRow : OpenClaim := { program := "ytheafphhgacpfaa", sum := "da66112890c80633e5e0723c1036e29194b7954c8df503c4d2214d56cf5591f2", func := "punnet/punnetlaw15.LensApplies", spec := "lensApplies", apart := false, narrowed := true }
def LensAppliesUptoSaid : Prop := lensAppliesUptoRow.holds Try.pinned (OpenSpec.upto lensAppliesSpec)

/-- 'punnetlaw15.LensKeeps', WHERE WHAT IT READS IS OF BULK AT MOST 1048576: true; the input reads as it did. -/
def lensKeepsUptoRow : OpenClaim := { program := "ytheafphhgacpfaa", sum := "da66112890c80633e5e0723c1036e29194b7954c8df503c4d2214d56cf5591f2", func := "punnet/punnetlaw15.LensKeeps", spec := "lensKeeps", apart := false, narrowed := true }
def LensKeepsUptoSaid : Prop := lensKeepsUptoRow.holds Try.pinned (OpenSpec.upto lensKeepsSpec)

/-- 'punnetlaw15.LensCases', WHERE WHAT IT READS IS OF BULK AT MOST 1048576: true; the input reads as it did. -/
def lensCasesUptoRow : OpenClaim := { program := "ytheafphhgacpfaa", sum := "da66112890c80633e5e0723c1036e29194b7954c8df503c4d2214d56cf5591f2", func := "punnet/punnetlaw15.LensCases", spec := "lensCases", apart := false, narrowed := true }
def LensCasesUptoSaid : Prop := lensCasesUptoRow.holds Try.pinned (OpenSpec.upto lensCasesSpec)

/-- 'punnetlaw15.LensRight', WHERE WHAT IT READS IS OF BULK AT MOST 1048576: true; the input reads as it did. -/
def lensRightUptoRow : OpenClaim := { program := "ytheafphhgacpfaa", sum := "da66112890c80633e5e0723c1036e29194b7954c8df503c4d2214d56cf5591f2", func := "punnet/punnetlaw15.LensRight", spec := "lensRight", apart := false, narrowed := true }
def LensRightUptoSaid : Prop := lensRightUptoRow.holds Try.pinned (OpenSpec.upto lensRightSpec)

/-- 'punnetlaw15.LensBytes', WHERE WHAT IT READS IS OF BULK AT MOST 1048576: true; the input reads as it did. -/
def lensBytesUptoRow : OpenClaim := { program := "ytheafphhgacpfaa", sum := "da66112890c80633e5e0723c1036e29194b7954c8df503c4d2214d56cf5591f2", func := "punnet/punnetlaw15.LensBytes", spec := "lensBytes", apart := false, narrowed := true }
def LensBytesUptoSaid : Prop := lensBytesUptoRow.holds Try.pinned (OpenSpec.upto lensBytesSpec)

end Rows
end Go.Proofs.Ytheafphhgacpfaa
