/-
  No cell of these rows narrows 'for every input' (looked for: loops, veiled, ifaces, maps, wideKeys, modest, calm, conditions, laid).
  DERIVED. THE GIVEN ROWS OF THIS SEAT. 3 by the template 'for every input the law returns true; each argument reads behind the call as it read before'; 0 by the template 'total and deterministic' (their statements: YtkgkljphjlikoaaGreatTotals.lean).
  GIVEN WITH THE SEED: the statements are not yours to turn. If you find one false, say at which input.
  Laid BY PROGRAM, IN A SANDBOX (cutbox-rows.mjs): the forced cells as the released guide's own fill.sh prints them over the translation ad0ff3e100cf4134… (all of the seat's roots in one cut). By AI agents, Wed Nov 11 2026. No macro, syntax, notation, axiom, sorry.
-/
import Derived.Test.YtkgkljphjlikoaaGreatChecked
import GoSem.Claim
import GoSem.ClaimJoined
import GoSem.ClaimMapViews
import Derived.JoinedTies
import Derived.KernelRfl
namespace Go.Proofs.YtkgkljphjlikoaaGreat
/- THE CELL 'sum', in the pinned program and in every row, IS THE sha256 OF THE DUMP (.gsa) THAT YtkgkljphjlikoaaGreatProg.lean LOADS. Nothing in Lean hashes anything: it is a label: what it is worth is what the hold of that sum in a sandbox is worth. -/
noncomputable def Tryz.pinned : Pinned := { name := "ytkgkljphjlikoaagreat", sum := "ad0ff3e100cf4134300605a7d859f24b36d1436617aeff9f36278a9b27c17831", checked := Tryz.checked }
namespace Rows
def none {H : Type} : Left H := { results := [], args := [] }

/-- 'punnetlaw17.TreeBytes': WHATEVER THE INPUT: true; the input reads as it did. -/
def treeBytesSpec : ChangeSpec := { name := "treeBytes", fn := fun _ => fun
  | [d1, d2, d3] => { results := [.lit (.bool true)], args := [d1, d2, d3] }
  | _ => none }
def treeBytesRow : OpenClaim := { program := "ytkgkljphjlikoaagreat", sum := "ad0ff3e100cf4134300605a7d859f24b36d1436617aeff9f36278a9b27c17831", func := "punnet/punnetlaw17.TreeBytes", spec := "treeBytes", plainKeys := false, apart := false }
def TreeBytesSaid : Prop := treeBytesRow.holds Tryz.pinned (OpenSpec.ofChange treeBytesSpec)

/-- ITS FALSE NEIGHBOUR: 'it returns false'. Refute it at one input. -/
def treeBytesWrong : ChangeSpec := { name := "treeBytes", fn := fun _ => fun
  | [d1, d2, d3] => { results := [.lit (.bool false)], args := [d1, d2, d3] }
  | _ => none }
def TreeBytesWrongFalsely : Prop := treeBytesRow.holds Tryz.pinned (OpenSpec.ofChange treeBytesWrong)

/-- 'punnetlaw17.TreePuts': WHATEVER THE INPUT: true; the input reads as it did. -/
def treePutsSpec : ChangeSpec := { name := "treePuts", fn := fun _ => fun
  | [d1, d2] => { results := [.lit (.bool true)], args := [d1, d2] }
  | _ => none }
def treePutsRow : OpenClaim := { program := "ytkgkljphjlikoaagreat", sum := "ad0ff3e100cf4134300605a7d859f24b36d1436617aeff9f36278a9b27c17831", func := "punnet/punnetlaw17.TreePuts", spec := "treePuts", unfollowed := true, recurses := true, plainKeys := false, apart := false }
def TreePutsSaid : Prop := treePutsRow.holds Tryz.pinned (OpenSpec.ofChange treePutsSpec)

/-- ITS FALSE NEIGHBOUR: 'it returns false'. Refute it at one input. -/
def treePutsWrong : ChangeSpec := { name := "treePuts", fn := fun _ => fun
  | [d1, d2] => { results := [.lit (.bool false)], args := [d1, d2] }
  | _ => none }
def TreePutsWrongFalsely : Prop := treePutsRow.holds Tryz.pinned (OpenSpec.ofChange treePutsWrong)

/-- 'punnetlaw17.TreeStays': WHATEVER THE INPUT: true; the input reads as it did. -/
def treeStaysSpec : ChangeSpec := { name := "treeStays", fn := fun _ => fun
  | [d1, d2] => { results := [.lit (.bool true)], args := [d1, d2] }
  | _ => none }
def treeStaysRow : OpenClaim := { program := "ytkgkljphjlikoaagreat", sum := "ad0ff3e100cf4134300605a7d859f24b36d1436617aeff9f36278a9b27c17831", func := "punnet/punnetlaw17.TreeStays", spec := "treeStays", unfollowed := true, recurses := true, plainKeys := false, apart := false }
def TreeStaysSaid : Prop := treeStaysRow.holds Tryz.pinned (OpenSpec.ofChange treeStaysSpec)

/-- ITS FALSE NEIGHBOUR: 'it returns false'. Refute it at one input. -/
def treeStaysWrong : ChangeSpec := { name := "treeStays", fn := fun _ => fun
  | [d1, d2] => { results := [.lit (.bool false)], args := [d1, d2] }
  | _ => none }
def TreeStaysWrongFalsely : Prop := treeStaysRow.holds Tryz.pinned (OpenSpec.ofChange treeStaysWrong)

/- THE SECOND FORM. 'bulk': how many values and letters a reading holds, each counted each time it is reached (what is shared counts as often as it is met; a slice's spare places count too). A statement '..UptoSaid' is the law's where the arguments, and the package variables that the reading takes, are together of bulk at most 1048576: NARROWER than '..Said'. Prove '..Said' where nothing that the law and all that it calls make is longer than what came in: it says more and counts as full. Else prove '..UptoSaid'. A law counts once. -/
mutual
def uptoBulk {H : Type} : DataW H → Nat
  | .lit (.string bytes) => bytes.length + 1
  | .lit _ => 1
  | .nil => 1
  | .ptr d => uptoBulk d + 1
  | .slice elems spare => uptoBulkAll elems + uptoBulkAll spare + 1
  | .agg parts => uptoBulkAll parts + 1
  | .iface _ d => uptoBulk d + 1
  | .map entries => uptoBulkEntries entries + 1
  | .held _ => 1
def uptoBulkAll {H : Type} : List (DataW H) → Nat
  | [] => 0
  | d :: r => uptoBulk d + uptoBulkAll r
def uptoBulkEntries {H : Type} : List (Lit × DataW H) → Nat
  | [] => 0
  | x :: r => uptoBulkEntry x + uptoBulkEntries r
def uptoBulkEntry {H : Type} : Lit × DataW H → Nat
  | (.string bytes, d) => bytes.length + uptoBulk d + 1
  | (_, d) => uptoBulk d + 1
 end
def uptoSmall : (H : Type) → List (DataW H) → Bool := fun _ ds => decide (uptoBulkAll ds ≤ 1048576)
def OpenSpec.upto (s : _root_.Go.ChangeSpec) : _root_.Go.OpenSpec := { _root_.Go.OpenSpec.ofChange s with cond := some uptoSmall }

/-- 'punnetlaw17.TreeBytes', WHERE WHAT IT READS IS OF BULK AT MOST 1048576: true; the input reads as it did. -/
def treeBytesUptoRow : OpenClaim := { program := "ytkgkljphjlikoaagreat", sum := "ad0ff3e100cf4134300605a7d859f24b36d1436617aeff9f36278a9b27c17831", func := "punnet/punnetlaw17.TreeBytes", spec := "treeBytes", plainKeys := false, apart := false, narrowed := true }
def TreeBytesUptoSaid : Prop := treeBytesUptoRow.holds Tryz.pinned (OpenSpec.upto treeBytesSpec)

/-- 'punnetlaw17.TreePuts', WHERE WHAT IT READS IS OF BULK AT MOST 1048576: true; the input reads as it did. -/
def treePutsUptoRow : OpenClaim := { program := "ytkgkljphjlikoaagreat", sum := "ad0ff3e100cf4134300605a7d859f24b36d1436617aeff9f36278a9b27c17831", func := "punnet/punnetlaw17.TreePuts", spec := "treePuts", unfollowed := true, recurses := true, plainKeys := false, apart := false, narrowed := true }
def TreePutsUptoSaid : Prop := treePutsUptoRow.holds Tryz.pinned (OpenSpec.upto treePutsSpec)

/-- 'punnetlaw17.TreeStays', WHERE WHAT IT READS IS OF BULK AT MOST 1048576: true; the input reads as it did. -/
def treeStaysUptoRow : OpenClaim := { program := "ytkgkljphjlikoaagreat", sum := "ad0ff3e100cf4134300605a7d859f24b36d1436617aeff9f36278a9b27c17831", func := "punnet/punnetlaw17.TreeStays", spec := "treeStays", unfollowed := true, recurses := true, plainKeys := false, apart := false, narrowed := true }
def TreeStaysUptoSaid : Prop := treeStaysUptoRow.holds Tryz.pinned (OpenSpec.upto treeStaysSpec)

end Rows
end Go.Proofs.YtkgkljphjlikoaaGreat
