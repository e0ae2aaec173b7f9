/-
  NARROWER THAN 'FOR EVERY INPUT', by the rows' own cells (each row's printed sentence says how): SketchEdges: laid · SketchLenses: laid · SketchFields: laid · SketchSchemas: laid · SketchTrees: laid.
  DERIVED. THE GIVEN ROWS OF THIS SEAT. 5 by the template 'for every input the law returns true; each argument reads behind the call as it read before'; 0 by the template 'total and deterministic' (their statements: YtmmffeldlhofiaaGreatDoorTotals.lean).
  GIVEN WITH THE SEED: the statements are not yours to turn. If you find one false, say at which input.
  Laid BY PROGRAM, IN A SANDBOX (cutbox-rows.mjs): the forced cells as the released guide's own fill.sh prints them over the translation c671824e8a4b9e8e… (all of the seat's roots in one cut). By AI agents, Wed Nov 11 2026. No macro, syntax, notation, axiom, sorry.
-/
import Derived.Test.YtmmffeldlhofiaaGreatDoorChecked
import GoSem.PinnedTables
import GoSem.Claim
import GoSem.ClaimJoined
import GoSem.ClaimMapViews
import Derived.JoinedTies
import Derived.KernelRfl
namespace Go.Proofs.YtmmffeldlhofiaaGreatDoor
/- THE CELL 'sum', in the pinned program and in every row, IS THE sha256 OF THE DUMP (.gsa) THAT YtmmffeldlhofiaaGreatDoorProg.lean LOADS. Nothing in Lean hashes anything: it is a label: what it is worth is what the hold of that sum in a sandbox is worth. -/
noncomputable def Tryz.pinned : Pinned := { name := "ytmmffeldlhofiaagreatdoor", sum := "c671824e8a4b9e8e432c46ac4d6ea8686a67c619387a6fc6f8abe0eeaf08e6f1", checked := Tryz.checked }
namespace Rows
def none {H : Type} : Left H := { results := [], args := [] }

/- WHAT THE LISTED PACKAGE-LEVEL VARIABLES READ AS WHEN THE CALL BEGINS. Each datum BY PROGRAM (the guide's laid-datum.mjs) off the statement by which the dump's own 'gosem.cut.vars' lays the variable. In a bare row this is a premise. The card (YtmmffeldlhofiaaGreatDoorCards.lean) ties it to the program's text. -/
def laid_unicode_utf8_acceptRanges {H : Type} : DataW H := .agg [.agg [.lit (.int .u8 128), .lit (.int .u8 191)], .agg [.lit (.int .u8 160), .lit (.int .u8 191)], .agg [.lit (.int .u8 128), .lit (.int .u8 159)], .agg [.lit (.int .u8 144), .lit (.int .u8 191)], .agg [.lit (.int .u8 128), .lit (.int .u8 143)], .agg [.lit (.int .u8 0), .lit (.int .u8 0)], .agg [.lit (.int .u8 0), .lit (.int .u8 0)], .agg [.lit (.int .u8 0), .lit (.int .u8 0)], .agg [.lit (.int .u8 0), .lit (.int .u8 0)], .agg [.lit (.int .u8 0), .lit (.int .u8 0)], .agg [.lit (.int .u8 0), .lit (.int .u8 0)], .agg [.lit (.int .u8 0), .lit (.int .u8 0)], .agg [.lit (.int .u8 0), .lit (.int .u8 0)], .agg [.lit (.int .u8 0), .lit (.int .u8 0)], .agg [.lit (.int .u8 0), .lit (.int .u8 0)], .agg [.lit (.int .u8 0), .lit (.int .u8 0)]]
/-- One of Go's own tables, pinned by name: the form's constant. -/
def laid_unicode_utf8_first : DataW Unit := Go.Pinned.utf8First

/-- 'punnetlaw36.SketchEdges': WHATEVER THE INPUT: true; the input reads as it did. -/
def sketchEdgesSpec : ChangeSpec := { name := "sketchEdges", fn := fun _ => fun
  | [d1, d2] => { results := [.lit (.bool true)], args := [d1, d2] }
  | _ => none }
def sketchEdgesRow : OpenClaim := { program := "ytmmffeldlhofiaagreatdoor", sum := "c671824e8a4b9e8e432c46ac4d6ea8686a67c619387a6fc6f8abe0eeaf08e6f1", func := "punnet/punnetlaw36.SketchEdges", spec := "sketchEdges", inPlace := ["internal/bytealg.IndexByteString", "internal/bytealg.IndexString", "internal/bytealg.CountString", "internal/abi.NoEscape", "internal/bytealg.MakeNoZero"], unfollowed := true, recurses := true, named := ["internal/bytealg.MaxLen", "unicode/utf8.first", "unicode/utf8.acceptRanges"], plainKeys := false, apart := false, laid := [("unicode/utf8.acceptRanges", laid_unicode_utf8_acceptRanges), ("unicode/utf8.first", laid_unicode_utf8_first)] }
def SketchEdgesSaid : Prop := sketchEdgesRow.holds Tryz.pinned (OpenSpec.ofChange sketchEdgesSpec)

/-- ITS FALSE NEIGHBOUR: 'it returns false'. Refute it at one input. -/
def sketchEdgesWrong : ChangeSpec := { name := "sketchEdges", fn := fun _ => fun
  | [d1, d2] => { results := [.lit (.bool false)], args := [d1, d2] }
  | _ => none }
def SketchEdgesWrongFalsely : Prop := sketchEdgesRow.holds Tryz.pinned (OpenSpec.ofChange sketchEdgesWrong)

/-- 'punnetlaw36.SketchLenses': WHATEVER THE INPUT: true; the input reads as it did. -/
def sketchLensesSpec : ChangeSpec := { name := "sketchLenses", fn := fun _ => fun
  | [d1, d2] => { results := [.lit (.bool true)], args := [d1, d2] }
  | _ => none }
def sketchLensesRow : OpenClaim := { program := "ytmmffeldlhofiaagreatdoor", sum := "c671824e8a4b9e8e432c46ac4d6ea8686a67c619387a6fc6f8abe0eeaf08e6f1", func := "punnet/punnetlaw36.SketchLenses", spec := "sketchLenses", inPlace := ["internal/bytealg.IndexByteString", "internal/bytealg.IndexString", "internal/bytealg.CountString", "internal/abi.NoEscape", "internal/bytealg.MakeNoZero"], unfollowed := true, recurses := true, named := ["internal/bytealg.MaxLen", "unicode/utf8.first", "unicode/utf8.acceptRanges"], plainKeys := false, apart := false, laid := [("unicode/utf8.acceptRanges", laid_unicode_utf8_acceptRanges), ("unicode/utf8.first", laid_unicode_utf8_first)] }
def SketchLensesSaid : Prop := sketchLensesRow.holds Tryz.pinned (OpenSpec.ofChange sketchLensesSpec)

/-- ITS FALSE NEIGHBOUR: 'it returns false'. Refute it at one input. -/
def sketchLensesWrong : ChangeSpec := { name := "sketchLenses", fn := fun _ => fun
  | [d1, d2] => { results := [.lit (.bool false)], args := [d1, d2] }
  | _ => none }
def SketchLensesWrongFalsely : Prop := sketchLensesRow.holds Tryz.pinned (OpenSpec.ofChange sketchLensesWrong)

/-- 'punnetlaw36.SketchFields': WHATEVER THE INPUT: true; the input reads as it did. -/
def sketchFieldsSpec : ChangeSpec := { name := "sketchFields", fn := fun _ => fun
  | [d1, d2] => { results := [.lit (.bool true)], args := [d1, d2] }
  | _ => none }
def sketchFieldsRow : OpenClaim := { program := "ytmmffeldlhofiaagreatdoor", sum := "c671824e8a4b9e8e432c46ac4d6ea8686a67c619387a6fc6f8abe0eeaf08e6f1", func := "punnet/punnetlaw36.SketchFields", spec := "sketchFields", inPlace := ["internal/bytealg.IndexByteString", "internal/bytealg.IndexString", "internal/bytealg.CountString", "internal/abi.NoEscape", "internal/bytealg.MakeNoZero"], unfollowed := true, recurses := true, named := ["internal/bytealg.MaxLen", "unicode/utf8.first", "unicode/utf8.acceptRanges"], plainKeys := false, apart := false, laid := [("unicode/utf8.acceptRanges", laid_unicode_utf8_acceptRanges), ("unicode/utf8.first", laid_unicode_utf8_first)] }
def SketchFieldsSaid : Prop := sketchFieldsRow.holds Tryz.pinned (OpenSpec.ofChange sketchFieldsSpec)

/-- ITS FALSE NEIGHBOUR: 'it returns false'. Refute it at one input. -/
def sketchFieldsWrong : ChangeSpec := { name := "sketchFields", fn := fun _ => fun
  | [d1, d2] => { results := [.lit (.bool false)], args := [d1, d2] }
  | _ => none }
def SketchFieldsWrongFalsely : Prop := sketchFieldsRow.holds Tryz.pinned (OpenSpec.ofChange sketchFieldsWrong)

/-- 'punnetlaw36.SketchSchemas': WHATEVER THE INPUT: true; the input reads as it did. -/
def sketchSchemasSpec : ChangeSpec := { name := "sketchSchemas", fn := fun _ => fun
  | [d1, d2] => { results := [.lit (.bool true)], args := [d1, d2] }
  | _ => none }
def sketchSchemasRow : OpenClaim := { program := "ytmmffeldlhofiaagreatdoor", sum := "c671824e8a4b9e8e432c46ac4d6ea8686a67c619387a6fc6f8abe0eeaf08e6f1", func := "punnet/punnetlaw36.SketchSchemas", spec := "sketchSchemas", inPlace := ["internal/bytealg.IndexByteString", "internal/bytealg.IndexString", "internal/bytealg.CountString", "internal/abi.NoEscape", "internal/bytealg.MakeNoZero"], unfollowed := true, recurses := true, named := ["internal/bytealg.MaxLen", "unicode/utf8.first", "unicode/utf8.acceptRanges"], plainKeys := false, apart := false, laid := [("unicode/utf8.acceptRanges", laid_unicode_utf8_acceptRanges), ("unicode/utf8.first", laid_unicode_utf8_first)] }
def SketchSchemasSaid : Prop := sketchSchemasRow.holds Tryz.pinned (OpenSpec.ofChange sketchSchemasSpec)

/-- ITS FALSE NEIGHBOUR: 'it returns false'. Refute it at one input. -/
def sketchSchemasWrong : ChangeSpec := { name := "sketchSchemas", fn := fun _ => fun
  | [d1, d2] => { results := [.lit (.bool false)], args := [d1, d2] }
  | _ => none }
def SketchSchemasWrongFalsely : Prop := sketchSchemasRow.holds Tryz.pinned (OpenSpec.ofChange sketchSchemasWrong)

/-- 'punnetlaw36.SketchTrees': WHATEVER THE INPUT: true; the input reads as it did. -/
def sketchTreesSpec : ChangeSpec := { name := "sketchTrees", fn := fun _ => fun
  | [d1, d2] => { results := [.lit (.bool true)], args := [d1, d2] }
  | _ => none }
def sketchTreesRow : OpenClaim := { program := "ytmmffeldlhofiaagreatdoor", sum := "c671824e8a4b9e8e432c46ac4d6ea8686a67c619387a6fc6f8abe0eeaf08e6f1", func := "punnet/punnetlaw36.SketchTrees", spec := "sketchTrees", inPlace := ["internal/bytealg.IndexByteString", "internal/bytealg.IndexString", "internal/bytealg.CountString", "internal/abi.NoEscape", "internal/bytealg.MakeNoZero"], unfollowed := true, recurses := true, named := ["internal/bytealg.MaxLen", "unicode/utf8.first", "unicode/utf8.acceptRanges"], plainKeys := false, apart := false, laid := [("unicode/utf8.acceptRanges", laid_unicode_utf8_acceptRanges), ("unicode/utf8.first", laid_unicode_utf8_first)] }
def SketchTreesSaid : Prop := sketchTreesRow.holds Tryz.pinned (OpenSpec.ofChange sketchTreesSpec)

/-- ITS FALSE NEIGHBOUR: 'it returns false'. Refute it at one input. -/
def sketchTreesWrong : ChangeSpec := { name := "sketchTrees", fn := fun _ => fun
  | [d1, d2] => { results := [.lit (.bool false)], args := [d1, d2] }
  | _ => none }
def SketchTreesWrongFalsely : Prop := sketchTreesRow.holds Tryz.pinned (OpenSpec.ofChange sketchTreesWrong)

/- THE SECOND FORM. 'bulk': how many values and letters a reading holds, each counted each time it is reached (what is shared counts as often as it is met; a slice's spare places count too). A statement '..UptoSaid' is the law's where the arguments, and the package variables that the reading takes, are together of bulk at most 1048576: NARROWER than '..Said'. Prove '..Said' where nothing that the law and all that it calls make is longer than what came in: it says more and counts as full. Else prove '..UptoSaid'. A law counts once. -/
mutual
def uptoBulk {H : Type} : DataW H → Nat
  | .lit (.string bytes) => bytes.length + 1
  | .lit _ => 1
  | .nil => 1
  | .ptr d => uptoBulk d + 1
  | .slice elems spare => uptoBulkAll elems + uptoBulkAll spare + 1
  | .agg parts => uptoBulkAll parts + 1
  | .iface _ d => uptoBulk d + 1
  | .map entries => uptoBulkEntries entries + 1
  | .held _ => 1
def uptoBulkAll {H : Type} : List (DataW H) → Nat
  | [] => 0
  | d :: r => uptoBulk d + uptoBulkAll r
def uptoBulkEntries {H : Type} : List (Lit × DataW H) → Nat
  | [] => 0
  | x :: r => uptoBulkEntry x + uptoBulkEntries r
def uptoBulkEntry {H : Type} : Lit × DataW H → Nat
  | (.string bytes, d) => bytes.length + uptoBulk d + 1
  | (_, d) => uptoBulk d + 1
 end
def uptoSmall : (H : Type) → List (DataW H) → Bool := fun _ ds => decide (uptoBulkAll ds ≤ 1048576)
def OpenSpec.upto (s : _root_.Go.ChangeSpec) : _root_.Go.OpenSpec := { _root_.Go.OpenSpec.ofChange s with cond := some uptoSmall }

/-- 'punnetlaw36.SketchEdges', WHERE WHAT IT READS IS OF BULK AT MOST 1048576: true; the input reads as it did. -/
def sketchEdgesUptoRow : OpenClaim := { program := "ytmmffeldlhofiaagreatdoor", sum := "c671824e8a4b9e8e432c46ac4d6ea8686a67c619387a6fc6f8abe0eeaf08e6f1", func := "punnet/punnetlaw36.SketchEdges", spec := "sketchEdges", inPlace := ["internal/bytealg.IndexByteString", "internal/bytealg.IndexString", "internal/bytealg.CountString", "internal/abi.NoEscape", "internal/bytealg.MakeNoZero"], unfollowed := true, recurses := true, named := ["internal/bytealg.MaxLen", "unicode/utf8.first", "unicode/utf8.acceptRanges"], plainKeys := false, apart := false, laid := [("unicode/utf8.acceptRanges", laid_unicode_utf8_acceptRanges), ("unicode/utf8.first", laid_unicode_utf8_first)], narrowed := true }
def SketchEdgesUptoSaid : Prop := sketchEdgesUptoRow.holds Tryz.pinned (OpenSpec.upto sketchEdgesSpec)

/-- 'punnetlaw36.SketchLenses', WHERE WHAT IT READS IS OF BULK AT MOST 1048576: true; the input reads as it did. -/
def sketchLensesUptoRow : OpenClaim := { program := "ytmmffeldlhofiaagreatdoor", sum := "c671824e8a4b9e8e432c46ac4d6ea8686a67c619387a6fc6f8abe0eeaf08e6f1", func := "punnet/punnetlaw36.SketchLenses", spec := "sketchLenses", inPlace := ["internal/bytealg.IndexByteString", "internal/bytealg.IndexString", "internal/bytealg.CountString", "internal/abi.NoEscape", "internal/bytealg.MakeNoZero"], unfollowed := true, recurses := true, named := ["internal/bytealg.MaxLen", "unicode/utf8.first", "unicode/utf8.acceptRanges"], plainKeys := false, apart := false, laid := [("unicode/utf8.acceptRanges", laid_unicode_utf8_acceptRanges), ("unicode/utf8.first", laid_unicode_utf8_first)], narrowed := true }
def SketchLensesUptoSaid : Prop := sketchLensesUptoRow.holds Tryz.pinned (OpenSpec.upto sketchLensesSpec)

/-- 'punnetlaw36.SketchFields', WHERE WHAT IT READS IS OF BULK AT MOST 1048576: true; the input reads as it did. -/
def sketchFieldsUptoRow : OpenClaim := { program := "ytmmffeldlhofiaagreatdoor", sum := "c671824e8a4b9e8e432c46ac4d6ea8686a67c619387a6fc6f8abe0eeaf08e6f1", func := "punnet/punnetlaw36.SketchFields", spec := "sketchFields", inPlace := ["internal/bytealg.IndexByteString", "internal/bytealg.IndexString", "internal/bytealg.CountString", "internal/abi.NoEscape", "internal/bytealg.MakeNoZero"], unfollowed := true, recurses := true, named := ["internal/bytealg.MaxLen", "unicode/utf8.first", "unicode/utf8.acceptRanges"], plainKeys := false, apart := false, laid := [("unicode/utf8.acceptRanges", laid_unicode_utf8_acceptRanges), ("unicode/utf8.first", laid_unicode_utf8_first)], narrowed := true }
def SketchFieldsUptoSaid : Prop := sketchFieldsUptoRow.holds Tryz.pinned (OpenSpec.upto sketchFieldsSpec)

/-- 'punnetlaw36.SketchSchemas', WHERE WHAT IT READS IS OF BULK AT MOST 1048576: true; the input reads as it did. -/
def sketchSchemasUptoRow : OpenClaim := { program := "ytmmffeldlhofiaagreatdoor", sum := "c671824e8a4b9e8e432c46ac4d6ea8686a67c619387a6fc6f8abe0eeaf08e6f1", func := "punnet/punnetlaw36.SketchSchemas", spec := "sketchSchemas", inPlace := ["internal/bytealg.IndexByteString", "internal/bytealg.IndexString", "internal/bytealg.CountString", "internal/abi.NoEscape", "internal/bytealg.MakeNoZero"], unfollowed := true, recurses := true, named := ["internal/bytealg.MaxLen", "unicode/utf8.first", "unicode/utf8.acceptRanges"], plainKeys := false, apart := false, laid := [("unicode/utf8.acceptRanges", laid_unicode_utf8_acceptRanges), ("unicode/utf8.first", laid_unicode_utf8_first)], narrowed := true }
def SketchSchemasUptoSaid : Prop := sketchSchemasUptoRow.holds Tryz.pinned (OpenSpec.upto sketchSchemasSpec)

/-- 'punnetlaw36.SketchTrees', WHERE WHAT IT READS IS OF BULK AT MOST 1048576: true; the input reads as it did. -/
def sketchTreesUptoRow : OpenClaim := { program := "ytmmffeldlhofiaagreatdoor", sum := "c671824e8a4b9e8e432c46ac4d6ea8686a67c619387a6fc6f8abe0eeaf08e6f1", func := "punnet/punnetlaw36.SketchTrees", spec := "sketchTrees", inPlace := ["internal/bytealg.IndexByteString", "internal/bytealg.IndexString", "internal/bytealg.CountString", "internal/abi.NoEscape", "internal/bytealg.MakeNoZero"], unfollowed := true, recurses := true, named := ["internal/bytealg.MaxLen", "unicode/utf8.first", "unicode/utf8.acceptRanges"], plainKeys := false, apart := false, laid := [("unicode/utf8.acceptRanges", laid_unicode_utf8_acceptRanges), ("unicode/utf8.first", laid_unicode_utf8_first)], narrowed := true }
def SketchTreesUptoSaid : Prop := sketchTreesUptoRow.holds Tryz.pinned (OpenSpec.upto sketchTreesSpec)

end Rows
end Go.Proofs.YtmmffeldlhofiaaGreatDoor
