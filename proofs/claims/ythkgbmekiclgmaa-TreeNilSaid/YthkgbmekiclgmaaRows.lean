/-
  No cell of these rows narrows 'for every input' (looked for: loops, veiled, ifaces, maps, wideKeys, modest, calm, conditions, laid).
  DERIVED. THE GIVEN ROWS OF THIS SEAT. 8 by the template 'for every input the law returns true; each argument reads behind the call as it read before'; 0 by the template 'total and deterministic' (their statements: YthkgbmekiclgmaaTotals.lean).
  GIVEN WITH THE SEED: the statements are not yours to turn. If you find one false, say at which input.
  Laid BY PROGRAM, IN A SANDBOX (cutbox-rows.mjs): the forced cells as the released guide's own fill.sh prints them over the translation e10caacdb378378a… (all of the seat's roots in one cut). By AI agents, Wed Nov 11 2026. No macro, syntax, notation, axiom, sorry.
-/
import Derived.Test.YthkgbmekiclgmaaChecked
import GoSem.Claim
import GoSem.ClaimJoined
import GoSem.ClaimMapViews
import Derived.JoinedTies
import Derived.KernelRfl
namespace Go.Proofs.Ythkgbmekiclgmaa
/- THE CELL 'sum', in the pinned program and in every row, IS THE sha256 OF THE DUMP (.gsa) THAT YthkgbmekiclgmaaProg.lean LOADS. Nothing in Lean hashes anything: it is a label: what it is worth is what the hold of that sum in a sandbox is worth. -/
noncomputable def Try.pinned : Pinned := { name := "ythkgbmekiclgmaa", sum := "e10caacdb378378a73627e16d3c514cd288476e863872ac26e46b1629dbe7a15", checked := Try.checked }
namespace Rows
def none {H : Type} : Left H := { results := [], args := [] }

/-- 'punnetlaw15.LensApplies': WHATEVER THE INPUT: true; the input reads as it did. -/
def lensAppliesSpec : ChangeSpec := { name := "lensApplies", fn := fun _ => fun
  | [d1, d2] => { results := [.lit (.bool true)], args := [d1, d2] }
  | _ => none }
def lensAppliesRow : OpenClaim := { program := "ythkgbmekiclgmaa", sum := "e10caacdb378378a73627e16d3c514cd288476e863872ac26e46b1629dbe7a15", func := "punnet/punnetlaw15.LensApplies", spec := "lensApplies", plainKeys := false, apart := false }
def LensAppliesSaid : Prop := lensAppliesRow.holds Try.pinned (OpenSpec.ofChange lensAppliesSpec)

/-- ITS FALSE NEIGHBOUR: 'it returns false'. Refute it at one input. -/
def lensAppliesWrong : ChangeSpec := { name := "lensApplies", fn := fun _ => fun
  | [d1, d2] => { results := [.lit (.bool false)], args := [d1, d2] }
  | _ => none }
def LensAppliesWrongFalsely : Prop := lensAppliesRow.holds Try.pinned (OpenSpec.ofChange lensAppliesWrong)

/-- 'punnetlaw15.LensKeeps': WHATEVER THE INPUT: true; the input reads as it did. -/
def lensKeepsSpec : ChangeSpec := { name := "lensKeeps", fn := fun _ => fun
  | [d1, d2, d3] => { results := [.lit (.bool true)], args := [d1, d2, d3] }
  | _ => none }
def lensKeepsRow : OpenClaim := { program := "ythkgbmekiclgmaa", sum := "e10caacdb378378a73627e16d3c514cd288476e863872ac26e46b1629dbe7a15", func := "punnet/punnetlaw15.LensKeeps", spec := "lensKeeps", plainKeys := false, apart := false }
def LensKeepsSaid : Prop := lensKeepsRow.holds Try.pinned (OpenSpec.ofChange lensKeepsSpec)

/-- ITS FALSE NEIGHBOUR: 'it returns false'. Refute it at one input. -/
def lensKeepsWrong : ChangeSpec := { name := "lensKeeps", fn := fun _ => fun
  | [d1, d2, d3] => { results := [.lit (.bool false)], args := [d1, d2, d3] }
  | _ => none }
def LensKeepsWrongFalsely : Prop := lensKeepsRow.holds Try.pinned (OpenSpec.ofChange lensKeepsWrong)

/-- 'punnetlaw15.LensCases': WHATEVER THE INPUT: true; the input reads as it did. -/
def lensCasesSpec : ChangeSpec := { name := "lensCases", fn := fun _ => fun
  | [d1, d2] => { results := [.lit (.bool true)], args := [d1, d2] }
  | _ => none }
def lensCasesRow : OpenClaim := { program := "ythkgbmekiclgmaa", sum := "e10caacdb378378a73627e16d3c514cd288476e863872ac26e46b1629dbe7a15", func := "punnet/punnetlaw15.LensCases", spec := "lensCases", plainKeys := false, apart := false }
def LensCasesSaid : Prop := lensCasesRow.holds Try.pinned (OpenSpec.ofChange lensCasesSpec)

/-- ITS FALSE NEIGHBOUR: 'it returns false'. Refute it at one input. -/
def lensCasesWrong : ChangeSpec := { name := "lensCases", fn := fun _ => fun
  | [d1, d2] => { results := [.lit (.bool false)], args := [d1, d2] }
  | _ => none }
def LensCasesWrongFalsely : Prop := lensCasesRow.holds Try.pinned (OpenSpec.ofChange lensCasesWrong)

/-- 'punnetlaw15.LensRight': WHATEVER THE INPUT: true; the input reads as it did. -/
def lensRightSpec : ChangeSpec := { name := "lensRight", fn := fun _ => fun
  | [d1, d2] => { results := [.lit (.bool true)], args := [d1, d2] }
  | _ => none }
def lensRightRow : OpenClaim := { program := "ythkgbmekiclgmaa", sum := "e10caacdb378378a73627e16d3c514cd288476e863872ac26e46b1629dbe7a15", func := "punnet/punnetlaw15.LensRight", spec := "lensRight", plainKeys := false, apart := false }
def LensRightSaid : Prop := lensRightRow.holds Try.pinned (OpenSpec.ofChange lensRightSpec)

/-- ITS FALSE NEIGHBOUR: 'it returns false'. Refute it at one input. -/
def lensRightWrong : ChangeSpec := { name := "lensRight", fn := fun _ => fun
  | [d1, d2] => { results := [.lit (.bool false)], args := [d1, d2] }
  | _ => none }
def LensRightWrongFalsely : Prop := lensRightRow.holds Try.pinned (OpenSpec.ofChange lensRightWrong)

/-- 'punnetlaw17.TreeTags': WHATEVER THE INPUT: true; the input reads as it did. -/
def treeTagsSpec : ChangeSpec := { name := "treeTags", fn := fun _ => fun
  | [d1, d2, d3] => { results := [.lit (.bool true)], args := [d1, d2, d3] }
  | _ => none }
def treeTagsRow : OpenClaim := { program := "ythkgbmekiclgmaa", sum := "e10caacdb378378a73627e16d3c514cd288476e863872ac26e46b1629dbe7a15", func := "punnet/punnetlaw17.TreeTags", spec := "treeTags", plainKeys := false, apart := false }
def TreeTagsSaid : Prop := treeTagsRow.holds Try.pinned (OpenSpec.ofChange treeTagsSpec)

/-- ITS FALSE NEIGHBOUR: 'it returns false'. Refute it at one input. -/
def treeTagsWrong : ChangeSpec := { name := "treeTags", fn := fun _ => fun
  | [d1, d2, d3] => { results := [.lit (.bool false)], args := [d1, d2, d3] }
  | _ => none }
def TreeTagsWrongFalsely : Prop := treeTagsRow.holds Try.pinned (OpenSpec.ofChange treeTagsWrong)

/-- 'punnetlaw15.LensBytes': WHATEVER THE INPUT: true; the input reads as it did. -/
def lensBytesSpec : ChangeSpec := { name := "lensBytes", fn := fun _ => fun
  | [d1, d2, d3] => { results := [.lit (.bool true)], args := [d1, d2, d3] }
  | _ => none }
def lensBytesRow : OpenClaim := { program := "ythkgbmekiclgmaa", sum := "e10caacdb378378a73627e16d3c514cd288476e863872ac26e46b1629dbe7a15", func := "punnet/punnetlaw15.LensBytes", spec := "lensBytes", plainKeys := false, apart := false }
def LensBytesSaid : Prop := lensBytesRow.holds Try.pinned (OpenSpec.ofChange lensBytesSpec)

/-- ITS FALSE NEIGHBOUR: 'it returns false'. Refute it at one input. -/
def lensBytesWrong : ChangeSpec := { name := "lensBytes", fn := fun _ => fun
  | [d1, d2, d3] => { results := [.lit (.bool false)], args := [d1, d2, d3] }
  | _ => none }
def LensBytesWrongFalsely : Prop := lensBytesRow.holds Try.pinned (OpenSpec.ofChange lensBytesWrong)

/-- 'punnetlaw17.TreeOrders': WHATEVER THE INPUT: true; the input reads as it did. -/
def treeOrdersSpec : ChangeSpec := { name := "treeOrders", fn := fun _ => fun
  | [d1, d2] => { results := [.lit (.bool true)], args := [d1, d2] }
  | _ => none }
def treeOrdersRow : OpenClaim := { program := "ythkgbmekiclgmaa", sum := "e10caacdb378378a73627e16d3c514cd288476e863872ac26e46b1629dbe7a15", func := "punnet/punnetlaw17.TreeOrders", spec := "treeOrders", unfollowed := true, recurses := true, plainKeys := false, apart := false }
def TreeOrdersSaid : Prop := treeOrdersRow.holds Try.pinned (OpenSpec.ofChange treeOrdersSpec)

/-- ITS FALSE NEIGHBOUR: 'it returns false'. Refute it at one input. -/
def treeOrdersWrong : ChangeSpec := { name := "treeOrders", fn := fun _ => fun
  | [d1, d2] => { results := [.lit (.bool false)], args := [d1, d2] }
  | _ => none }
def TreeOrdersWrongFalsely : Prop := treeOrdersRow.holds Try.pinned (OpenSpec.ofChange treeOrdersWrong)

/-- 'punnetlaw17.TreeNil': WHATEVER THE INPUT: true; the input reads as it did. -/
def treeNilSpec : ChangeSpec := { name := "treeNil", fn := fun _ => fun
  | [d1, d2] => { results := [.lit (.bool true)], args := [d1, d2] }
  | _ => none }
def treeNilRow : OpenClaim := { program := "ythkgbmekiclgmaa", sum := "e10caacdb378378a73627e16d3c514cd288476e863872ac26e46b1629dbe7a15", func := "punnet/punnetlaw17.TreeNil", spec := "treeNil", unfollowed := true, recurses := true, plainKeys := false, apart := false }
def TreeNilSaid : Prop := treeNilRow.holds Try.pinned (OpenSpec.ofChange treeNilSpec)

/-- ITS FALSE NEIGHBOUR: 'it returns false'. Refute it at one input. -/
def treeNilWrong : ChangeSpec := { name := "treeNil", fn := fun _ => fun
  | [d1, d2] => { results := [.lit (.bool false)], args := [d1, d2] }
  | _ => none }
def TreeNilWrongFalsely : Prop := treeNilRow.holds Try.pinned (OpenSpec.ofChange treeNilWrong)

/- THE SECOND FORM. 'bulk': how many values and letters a reading holds, each counted each time it is reached (what is shared counts as often as it is met; a slice's spare places count too). A statement '..UptoSaid' is the law's where the arguments, and the package variables that the reading takes, are together of bulk at most 1048576: NARROWER than '..Said'. Prove '..Said' where nothing that the law and all that it calls make is longer than what came in: it says more and counts as full. Else prove '..UptoSaid'. A law counts once. -/
mutual
def uptoBulk {H : Type} : DataW H → Nat
  | .lit (.string bytes) => bytes.length + 1
  | .lit _ => 1
  | .nil => 1
  | .ptr d => uptoBulk d + 1
  | .slice elems spare => uptoBulkAll elems + uptoBulkAll spare + 1
  | .agg parts => uptoBulkAll parts + 1
  | .iface _ d => uptoBulk d + 1
  | .map entries => uptoBulkEntries entries + 1
  | .held _ => 1
def uptoBulkAll {H : Type} : List (DataW H) → Nat
  | [] => 0
  | d :: r => uptoBulk d + uptoBulkAll r
def uptoBulkEntries {H : Type} : List (Lit × DataW H) → Nat
  | [] => 0
  | x :: r => uptoBulkEntry x + uptoBulkEntries r
def uptoBulkEntry {H : Type} : Lit × DataW H → Nat
  | (.string bytes, d) => bytes.length + uptoBulk d + 1
  | (_, d) => uptoBulk d + 1
 end
def uptoSmall : (H : Type) → List (DataW H) → Bool := fun _ ds => decide (uptoBulkAll ds ≤ 1048576)
def OpenSpec.upto (s : _root_.Go.ChangeSpec) : _root_.Go.OpenSpec := { _root_.Go.OpenSpec.ofChange s with cond := some uptoSmall }

/-- 'punnetlaw15.LensApplies', WHERE WHAT IT READS IS OF BULK AT MOST 1048576: true; the input reads as it did. -/
def lensAppliesUptoRow : OpenClaim := { program := "ythkgbmekiclgmaa", sum := "e10caacdb378378a73627e16d3c514cd288476e863872ac26e46b1629dbe7a15", func := "punnet/punnetlaw15.LensApplies", spec := "lensApplies", plainKeys := false, apart := false, narrowed := true }
def LensAppliesUptoSaid : Prop := lensAppliesUptoRow.holds Try.pinned (OpenSpec.upto lensAppliesSpec)

/-- 'punnetlaw15.LensKeeps', WHERE WHAT IT READS IS OF BULK AT MOST 1048576: true; the input reads as it did. -/
def lensKeepsUptoRow : OpenClaim := { program := "ythkgbmekiclgmaa", sum := "e10caacdb378378a73627e16d3c514cd288476e863872ac26e46b1629dbe7a15", func := "punnet/punnetlaw15.LensKeeps", spec := "lensKeeps", plainKeys := false, apart := false, narrowed := true }
def LensKeepsUptoSaid : Prop := lensKeepsUptoRow.holds Try.pinned (OpenSpec.upto lensKeepsSpec)

/-- 'punnetlaw15.LensCases', WHERE WHAT IT READS IS OF BULK AT MOST 1048576: true; the input reads as it did. -/
def lensCasesUptoRow : OpenClaim := { program := "ythkgbmekiclgmaa", sum := "e10caacdb378378a73627e16d3c514cd288476e863872ac26e46b1629dbe7a15", func := "punnet/punnetlaw15.LensCases", spec := "lensCases", plainKeys := false, apart := false, narrowed := true }
def LensCasesUptoSaid : Prop := lensCasesUptoRow.holds Try.pinned (OpenSpec.upto lensCasesSpec)

/-- 'punnetlaw15.LensRight', WHERE WHAT IT READS IS OF BULK AT MOST 1048576: true; the input reads as it did. -/
def lensRightUptoRow : OpenClaim := { program := "ythkgbmekiclgmaa", sum := "e10caacdb378378a73627e16d3c514cd288476e863872ac26e46b1629dbe7a15", func := "punnet/punnetlaw15.LensRight", spec := "lensRight", plainKeys := false, apart := false, narrowed := true }
def LensRightUptoSaid : Prop := lensRightUptoRow.holds Try.pinned (OpenSpec.upto lensRightSpec)

/-- 'punnetlaw17.TreeTags', WHERE WHAT IT READS IS OF BULK AT MOST 1048576: true; the input reads as it did. -/
def treeTagsUptoRow : OpenClaim := { program := "ythkgbmekiclgmaa", sum := "e10caacdb378378a73627e16d3c514cd288476e863872ac26e46b1629dbe7a15", func := "punnet/punnetlaw17.TreeTags", spec := "treeTags", plainKeys := false, apart := false, narrowed := true }
def TreeTagsUptoSaid : Prop := treeTagsUptoRow.holds Try.pinned (OpenSpec.upto treeTagsSpec)

/-- 'punnetlaw15.LensBytes', WHERE WHAT IT READS IS OF BULK AT MOST 1048576: true; the input reads as it did. -/
def lensBytesUptoRow : OpenClaim := { program := "ythkgbmekiclgmaa", sum := "e10caacdb378378a73627e16d3c514cd288476e863872ac26e46b1629dbe7a15", func := "punnet/punnetlaw15.LensBytes", spec := "lensBytes", plainKeys := false, apart := false, narrowed := true }
def LensBytesUptoSaid : Prop := lensBytesUptoRow.holds Try.pinned (OpenSpec.upto lensBytesSpec)

/-- 'punnetlaw17.TreeOrders', WHERE WHAT IT READS IS OF BULK AT MOST 1048576: true; the input reads as it did. -/
def treeOrdersUptoRow : OpenClaim := { program := "ythkgbmekiclgmaa", sum := "e10caacdb378378a73627e16d3c514cd288476e863872ac26e46b1629dbe7a15", func := "punnet/punnetlaw17.TreeOrders", spec := "treeOrders", unfollowed := true, recurses := true, plainKeys := false, apart := false, narrowed := true }
def TreeOrdersUptoSaid : Prop := treeOrdersUptoRow.holds Try.pinned (OpenSpec.upto treeOrdersSpec)

/-- 'punnetlaw17.TreeNil', WHERE WHAT IT READS IS OF BULK AT MOST 1048576: true; the input reads as it did. -/
def treeNilUptoRow : OpenClaim := { program := "ythkgbmekiclgmaa", sum := "e10caacdb378378a73627e16d3c514cd288476e863872ac26e46b1629dbe7a15", func := "punnet/punnetlaw17.TreeNil", spec := "treeNil", unfollowed := true, recurses := true, plainKeys := false, apart := false, narrowed := true }
def TreeNilUptoSaid : Prop := treeNilUptoRow.holds Try.pinned (OpenSpec.upto treeNilSpec)

end Rows
end Go.Proofs.Ythkgbmekiclgmaa
