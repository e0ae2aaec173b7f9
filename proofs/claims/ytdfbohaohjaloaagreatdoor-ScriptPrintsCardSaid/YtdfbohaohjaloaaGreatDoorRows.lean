/-
  NARROWER THAN 'FOR EVERY INPUT', by the rows' own cells (each row's printed sentence says how): ScriptTags: laid · ScriptNil: laid · ScriptParses: laid · ScriptPrints: laid.
  DERIVED. THE GIVEN ROWS OF THIS SEAT. 4 by the template 'for every input the law returns true; each argument reads behind the call as it read before'; 0 by the template 'total and deterministic' (their statements: YtdfbohaohjaloaaGreatDoorTotals.lean).
  GIVEN WITH THE SEED: the statements are not yours to turn. If you find one false, say at which input.
  Laid BY PROGRAM, IN A SANDBOX (cutbox-rows.mjs): the forced cells as the released guide's own fill.sh prints them over the translation 2d56378da4e1a81a… (all of the seat's roots in one cut). By AI agents, Wed Nov 11 2026. No macro, syntax, notation, axiom, sorry.
-/
import Derived.Test.YtdfbohaohjaloaaGreatDoorChecked
import GoSem.PinnedTables
import GoSem.Claim
import GoSem.ClaimJoined
import GoSem.ClaimMapViews
import Derived.JoinedTies
import Derived.KernelRfl
namespace Go.Proofs.YtdfbohaohjaloaaGreatDoor
/- THE CELL 'sum', in the pinned program and in every row, IS THE sha256 OF THE DUMP (.gsa) THAT YtdfbohaohjaloaaGreatDoorProg.lean LOADS. Nothing in Lean hashes anything: it is a label: what it is worth is what the hold of that sum in a sandbox is worth. -/
noncomputable def Tryz.pinned : Pinned := { name := "ytdfbohaohjaloaagreatdoor", sum := "2d56378da4e1a81a4d6c025b8c37a1be67efb05d07a25c8d8d77f37df35789ad", checked := Tryz.checked }
namespace Rows
def none {H : Type} : Left H := { results := [], args := [] }

/- WHAT THE LISTED PACKAGE-LEVEL VARIABLES READ AS WHEN THE CALL BEGINS. Each datum BY PROGRAM (the guide's laid-datum.mjs) off the statement by which the dump's own 'gosem.cut.vars' lays the variable. In a bare row this is a premise. The card (YtdfbohaohjaloaaGreatDoorCards.lean) ties it to the program's text. -/
def laid_unicode_utf8_acceptRanges {H : Type} : DataW H := .agg [.agg [.lit (.int .u8 128), .lit (.int .u8 191)], .agg [.lit (.int .u8 160), .lit (.int .u8 191)], .agg [.lit (.int .u8 128), .lit (.int .u8 159)], .agg [.lit (.int .u8 144), .lit (.int .u8 191)], .agg [.lit (.int .u8 128), .lit (.int .u8 143)], .agg [.lit (.int .u8 0), .lit (.int .u8 0)], .agg [.lit (.int .u8 0), .lit (.int .u8 0)], .agg [.lit (.int .u8 0), .lit (.int .u8 0)], .agg [.lit (.int .u8 0), .lit (.int .u8 0)], .agg [.lit (.int .u8 0), .lit (.int .u8 0)], .agg [.lit (.int .u8 0), .lit (.int .u8 0)], .agg [.lit (.int .u8 0), .lit (.int .u8 0)], .agg [.lit (.int .u8 0), .lit (.int .u8 0)], .agg [.lit (.int .u8 0), .lit (.int .u8 0)], .agg [.lit (.int .u8 0), .lit (.int .u8 0)], .agg [.lit (.int .u8 0), .lit (.int .u8 0)]]
def laid_punnet_script_deeds {H : Type} : DataW H := .agg [.lit (.string []), .lit (.string [97, 100, 100]), .lit (.string [114, 101, 109, 111, 118, 101]), .lit (.string [97, 100, 106, 117, 115, 116]), .lit (.string [115, 101, 116]), .lit (.string [112, 117, 116]), .lit (.string [116, 97, 107, 101]), .lit (.string [99, 108, 101, 97, 114]), .lit (.string [112, 117, 98, 108, 105, 115, 104]), .lit (.string [115, 119, 105, 116, 99, 104]), .lit (.string [118, 105, 101, 119]), .lit (.string [97, 116]), .lit (.string [112, 114, 111, 106, 101, 99, 116])]
def laid_punnet_script_moves {H : Type} : DataW H := .agg [.lit (.string []), .lit (.string []), .lit (.string [104, 101, 108, 108, 111]), .lit (.string [100, 101, 108, 105, 118, 101, 114]), .lit (.string [108, 111, 115, 101]), .lit (.string [100, 111, 117, 98, 108, 101]), .lit (.string [99, 117, 116]), .lit (.string [102, 117, 115, 101]), .lit (.string [99, 114, 97, 115, 104]), .lit (.string [102, 111, 108, 100]), .lit (.string [109, 101, 101, 116]), .lit (.string []), .lit (.string [])]
def laid_punnet_script_lenses {H : Type} : DataW H := .agg [.lit (.string []), .lit (.string [114, 101, 110, 97, 109, 101]), .lit (.string []), .lit (.string []), .lit (.string [104, 111, 105, 115, 116]), .lit (.string [112, 108, 117, 110, 103, 101]), .lit (.string [115, 112, 108, 105, 116]), .lit (.string [119, 114, 97, 112]), .lit (.string []), .lit (.string []), .lit (.string []), .lit (.string []), .lit (.string [])]
def laid_punnet_script_added {H : Type} : DataW H := .agg [.lit (.string []), .lit (.string [99, 111, 117, 110, 116, 101, 114]), .lit (.string [116, 101, 120, 116]), .lit (.string []), .lit (.string [108, 105, 115, 116]), .lit (.string []), .lit (.string []), .lit (.string []), .lit (.string []), .lit (.string []), .lit (.string []), .lit (.string []), .lit (.string [])]
/-- One of Go's own tables, pinned by name: the form's constant. -/
def laid_unicode_utf8_first : DataW Unit := Go.Pinned.utf8First

/-- 'punnetlaw34.ScriptTags': WHATEVER THE INPUT: true; the input reads as it did. -/
def scriptTagsSpec : ChangeSpec := { name := "scriptTags", fn := fun _ => fun
  | [d1, d2] => { results := [.lit (.bool true)], args := [d1, d2] }
  | _ => none }
def scriptTagsRow : OpenClaim := { program := "ytdfbohaohjaloaagreatdoor", sum := "2d56378da4e1a81a4d6c025b8c37a1be67efb05d07a25c8d8d77f37df35789ad", func := "punnet/punnetlaw34.ScriptTags", spec := "scriptTags", inPlace := ["math.archTrunc", "math.Float64bits", "math.Float64frombits", "internal/abi.NoEscape", "internal/bytealg.MakeNoZero", "internal/bytealg.IndexByteString", "internal/bytealg.IndexString", "internal/bytealg.CountString"], unfollowed := true, recurses := true, named := ["punnet/script.deeds", "punnet/script.moves", "internal/bytealg.MaxLen", "punnet/script.lenses", "punnet/script.added", "unicode/utf8.first", "unicode/utf8.acceptRanges"], plainKeys := false, apart := false, laid := [("unicode/utf8.acceptRanges", laid_unicode_utf8_acceptRanges), ("punnet/script.deeds", laid_punnet_script_deeds), ("punnet/script.moves", laid_punnet_script_moves), ("punnet/script.lenses", laid_punnet_script_lenses), ("punnet/script.added", laid_punnet_script_added), ("unicode/utf8.first", laid_unicode_utf8_first)] }
def ScriptTagsSaid : Prop := scriptTagsRow.holds Tryz.pinned (OpenSpec.ofChange scriptTagsSpec)

/-- ITS FALSE NEIGHBOUR: 'it returns false'. Refute it at one input. -/
def scriptTagsWrong : ChangeSpec := { name := "scriptTags", fn := fun _ => fun
  | [d1, d2] => { results := [.lit (.bool false)], args := [d1, d2] }
  | _ => none }
def ScriptTagsWrongFalsely : Prop := scriptTagsRow.holds Tryz.pinned (OpenSpec.ofChange scriptTagsWrong)

/-- 'punnetlaw34.ScriptNil': WHATEVER THE INPUT: true; the input reads as it did. -/
def scriptNilSpec : ChangeSpec := { name := "scriptNil", fn := fun _ => fun
  | [d] => { results := [.lit (.bool true)], args := [d] }
  | _ => none }
def scriptNilRow : OpenClaim := { program := "ytdfbohaohjaloaagreatdoor", sum := "2d56378da4e1a81a4d6c025b8c37a1be67efb05d07a25c8d8d77f37df35789ad", func := "punnet/punnetlaw34.ScriptNil", spec := "scriptNil", inPlace := ["math.archTrunc", "math.Float64bits", "math.Float64frombits", "internal/abi.NoEscape", "internal/bytealg.MakeNoZero", "internal/bytealg.IndexByteString", "internal/bytealg.IndexString", "internal/bytealg.CountString"], unfollowed := true, recurses := true, named := ["punnet/script.deeds", "punnet/script.moves", "internal/bytealg.MaxLen", "punnet/script.lenses", "punnet/script.added", "unicode/utf8.first", "unicode/utf8.acceptRanges"], plainKeys := false, apart := false, laid := [("unicode/utf8.acceptRanges", laid_unicode_utf8_acceptRanges), ("punnet/script.deeds", laid_punnet_script_deeds), ("punnet/script.moves", laid_punnet_script_moves), ("punnet/script.lenses", laid_punnet_script_lenses), ("punnet/script.added", laid_punnet_script_added), ("unicode/utf8.first", laid_unicode_utf8_first)] }
def ScriptNilSaid : Prop := scriptNilRow.holds Tryz.pinned (OpenSpec.ofChange scriptNilSpec)

/-- ITS FALSE NEIGHBOUR: 'it returns false'. Refute it at one input. -/
def scriptNilWrong : ChangeSpec := { name := "scriptNil", fn := fun _ => fun
  | [d] => { results := [.lit (.bool false)], args := [d] }
  | _ => none }
def ScriptNilWrongFalsely : Prop := scriptNilRow.holds Tryz.pinned (OpenSpec.ofChange scriptNilWrong)

/-- 'punnetlaw34.ScriptParses': WHATEVER THE INPUT: true; the input reads as it did. -/
def scriptParsesSpec : ChangeSpec := { name := "scriptParses", fn := fun _ => fun
  | [d] => { results := [.lit (.bool true)], args := [d] }
  | _ => none }
def scriptParsesRow : OpenClaim := { program := "ytdfbohaohjaloaagreatdoor", sum := "2d56378da4e1a81a4d6c025b8c37a1be67efb05d07a25c8d8d77f37df35789ad", func := "punnet/punnetlaw34.ScriptParses", spec := "scriptParses", inPlace := ["math.archTrunc", "math.Float64bits", "math.Float64frombits", "internal/abi.NoEscape", "internal/bytealg.MakeNoZero", "internal/bytealg.IndexByteString", "internal/bytealg.IndexString", "internal/bytealg.CountString"], unfollowed := true, recurses := true, named := ["punnet/script.deeds", "punnet/script.moves", "internal/bytealg.MaxLen", "punnet/script.lenses", "punnet/script.added", "unicode/utf8.first", "unicode/utf8.acceptRanges"], plainKeys := false, apart := false, laid := [("unicode/utf8.acceptRanges", laid_unicode_utf8_acceptRanges), ("punnet/script.deeds", laid_punnet_script_deeds), ("punnet/script.moves", laid_punnet_script_moves), ("punnet/script.lenses", laid_punnet_script_lenses), ("punnet/script.added", laid_punnet_script_added), ("unicode/utf8.first", laid_unicode_utf8_first)] }
def ScriptParsesSaid : Prop := scriptParsesRow.holds Tryz.pinned (OpenSpec.ofChange scriptParsesSpec)

/-- ITS FALSE NEIGHBOUR: 'it returns false'. Refute it at one input. -/
def scriptParsesWrong : ChangeSpec := { name := "scriptParses", fn := fun _ => fun
  | [d] => { results := [.lit (.bool false)], args := [d] }
  | _ => none }
def ScriptParsesWrongFalsely : Prop := scriptParsesRow.holds Tryz.pinned (OpenSpec.ofChange scriptParsesWrong)

/-- 'punnetlaw34.ScriptPrints': WHATEVER THE INPUT: true; the input reads as it did. -/
def scriptPrintsSpec : ChangeSpec := { name := "scriptPrints", fn := fun _ => fun
  | [d] => { results := [.lit (.bool true)], args := [d] }
  | _ => none }
def scriptPrintsRow : OpenClaim := { program := "ytdfbohaohjaloaagreatdoor", sum := "2d56378da4e1a81a4d6c025b8c37a1be67efb05d07a25c8d8d77f37df35789ad", func := "punnet/punnetlaw34.ScriptPrints", spec := "scriptPrints", inPlace := ["math.archTrunc", "math.Float64bits", "math.Float64frombits", "internal/abi.NoEscape", "internal/bytealg.MakeNoZero", "internal/bytealg.IndexByteString", "internal/bytealg.IndexString", "internal/bytealg.CountString"], unfollowed := true, recurses := true, named := ["punnet/script.deeds", "punnet/script.moves", "internal/bytealg.MaxLen", "punnet/script.lenses", "punnet/script.added", "unicode/utf8.first", "unicode/utf8.acceptRanges"], plainKeys := false, apart := false, laid := [("unicode/utf8.acceptRanges", laid_unicode_utf8_acceptRanges), ("punnet/script.deeds", laid_punnet_script_deeds), ("punnet/script.moves", laid_punnet_script_moves), ("punnet/script.lenses", laid_punnet_script_lenses), ("punnet/script.added", laid_punnet_script_added), ("unicode/utf8.first", laid_unicode_utf8_first)] }
def ScriptPrintsSaid : Prop := scriptPrintsRow.holds Tryz.pinned (OpenSpec.ofChange scriptPrintsSpec)

/-- ITS FALSE NEIGHBOUR: 'it returns false'. Refute it at one input. -/
def scriptPrintsWrong : ChangeSpec := { name := "scriptPrints", fn := fun _ => fun
  | [d] => { results := [.lit (.bool false)], args := [d] }
  | _ => none }
def ScriptPrintsWrongFalsely : Prop := scriptPrintsRow.holds Tryz.pinned (OpenSpec.ofChange scriptPrintsWrong)

/- THE SECOND FORM. 'bulk': how many values and letters a reading holds, each counted each time it is reached (what is shared counts as often as it is met; a slice's spare places count too). A statement '..UptoSaid' is the law's where the arguments, and the package variables that the reading takes, are together of bulk at most 1048576: NARROWER than '..Said'. Prove '..Said' where nothing that the law and all that it calls make is longer than what came in: it says more and counts as full. Else prove '..UptoSaid'. A law counts once. -/
mutual
def uptoBulk {H : Type} : DataW H → Nat
  | .lit (.string bytes) => bytes.length + 1
  | .lit _ => 1
  | .nil => 1
  | .ptr d => uptoBulk d + 1
  | .slice elems spare => uptoBulkAll elems + uptoBulkAll spare + 1
  | .agg parts => uptoBulkAll parts + 1
  | .iface _ d => uptoBulk d + 1
  | .map entries => uptoBulkEntries entries + 1
  | .held _ => 1
def uptoBulkAll {H : Type} : List (DataW H) → Nat
  | [] => 0
  | d :: r => uptoBulk d + uptoBulkAll r
def uptoBulkEntries {H : Type} : List (Lit × DataW H) → Nat
  | [] => 0
  | x :: r => uptoBulkEntry x + uptoBulkEntries r
def uptoBulkEntry {H : Type} : Lit × DataW H → Nat
  | (.string bytes, d) => bytes.length + uptoBulk d + 1
  | (_, d) => uptoBulk d + 1
 end
def uptoSmall : (H : Type) → List (DataW H) → Bool := fun _ ds => decide (uptoBulkAll ds ≤ 1048576)
def OpenSpec.upto (s : _root_.Go.ChangeSpec) : _root_.Go.OpenSpec := { _root_.Go.OpenSpec.ofChange s with cond := some uptoSmall }

/-- 'punnetlaw34.ScriptTags', WHERE WHAT IT READS IS OF BULK AT MOST 1048576: true; the input reads as it did. -/
def scriptTagsUptoRow : OpenClaim := { program := "ytdfbohaohjaloaagreatdoor", sum := "2d56378da4e1a81a4d6c025b8c37a1be67efb05d07a25c8d8d77f37df35789ad", func := "punnet/punnetlaw34.ScriptTags", spec := "scriptTags", inPlace := ["math.archTrunc", "math.Float64bits", "math.Float64frombits", "internal/abi.NoEscape", "internal/bytealg.MakeNoZero", "internal/bytealg.IndexByteString", "internal/bytealg.IndexString", "internal/bytealg.CountString"], unfollowed := true, recurses := true, named := ["punnet/script.deeds", "punnet/script.moves", "internal/bytealg.MaxLen", "punnet/script.lenses", "punnet/script.added", "unicode/utf8.first", "unicode/utf8.acceptRanges"], plainKeys := false, apart := false, laid := [("unicode/utf8.acceptRanges", laid_unicode_utf8_acceptRanges), ("punnet/script.deeds", laid_punnet_script_deeds), ("punnet/script.moves", laid_punnet_script_moves), ("punnet/script.lenses", laid_punnet_script_lenses), ("punnet/script.added", laid_punnet_script_added), ("unicode/utf8.first", laid_unicode_utf8_first)], narrowed := true }
def ScriptTagsUptoSaid : Prop := scriptTagsUptoRow.holds Tryz.pinned (OpenSpec.upto scriptTagsSpec)

/-- 'punnetlaw34.ScriptNil', WHERE WHAT IT READS IS OF BULK AT MOST 1048576: true; the input reads as it did. -/
def scriptNilUptoRow : OpenClaim := { program := "ytdfbohaohjaloaagreatdoor", sum := "2d56378da4e1a81a4d6c025b8c37a1be67efb05d07a25c8d8d77f37df35789ad", func := "punnet/punnetlaw34.ScriptNil", spec := "scriptNil", inPlace := ["math.archTrunc", "math.Float64bits", "math.Float64frombits", "internal/abi.NoEscape", "internal/bytealg.MakeNoZero", "internal/bytealg.IndexByteString", "internal/bytealg.IndexString", "internal/bytealg.CountString"], unfollowed := true, recurses := true, named := ["punnet/script.deeds", "punnet/script.moves", "internal/bytealg.MaxLen", "punnet/script.lenses", "punnet/script.added", "unicode/utf8.first", "unicode/utf8.acceptRanges"], plainKeys := false, apart := false, laid := [("unicode/utf8.acceptRanges", laid_unicode_utf8_acceptRanges), ("punnet/script.deeds", laid_punnet_script_deeds), ("punnet/script.moves", laid_punnet_script_moves), ("punnet/script.lenses", laid_punnet_script_lenses), ("punnet/script.added", laid_punnet_script_added), ("unicode/utf8.first", laid_unicode_utf8_first)], narrowed := true }
def ScriptNilUptoSaid : Prop := scriptNilUptoRow.holds Tryz.pinned (OpenSpec.upto scriptNilSpec)

/-- 'punnetlaw34.ScriptParses', WHERE WHAT IT READS IS OF BULK AT MOST 1048576: true; the input reads as it did. -/
def scriptParsesUptoRow : OpenClaim := { program := "ytdfbohaohjaloaagreatdoor", sum := "2d56378da4e1a81a4d6c025b8c37a1be67efb05d07a25c8d8d77f37df35789ad", func := "punnet/punnetlaw34.ScriptParses", spec := "scriptParses", inPlace := ["math.archTrunc", "math.Float64bits", "math.Float64frombits", "internal/abi.NoEscape", "internal/bytealg.MakeNoZero", "internal/bytealg.IndexByteString", "internal/bytealg.IndexString", "internal/bytealg.CountString"], unfollowed := true, recurses := true, named := ["punnet/script.deeds", "punnet/script.moves", "internal/bytealg.MaxLen", "punnet/script.lenses", "punnet/script.added", "unicode/utf8.first", "unicode/utf8.acceptRanges"], plainKeys := false, apart := false, laid := [("unicode/utf8.acceptRanges", laid_unicode_utf8_acceptRanges), ("punnet/script.deeds", laid_punnet_script_deeds), ("punnet/script.moves", laid_punnet_script_moves), ("punnet/script.lenses", laid_punnet_script_lenses), ("punnet/script.added", laid_punnet_script_added), ("unicode/utf8.first", laid_unicode_utf8_first)], narrowed := true }
def ScriptParsesUptoSaid : Prop := scriptParsesUptoRow.holds Tryz.pinned (OpenSpec.upto scriptParsesSpec)

/-- 'punnetlaw34.ScriptPrints', WHERE WHAT IT READS IS OF BULK AT MOST 1048576: true; the input reads as it did. -/
def scriptPrintsUptoRow : OpenClaim := { program := "ytdfbohaohjaloaagreatdoor", sum := "2d56378da4e1a81a4d6c025b8c37a1be67efb05d07a25c8d8d77f37df35789ad", func := "punnet/punnetlaw34.ScriptPrints", spec := "scriptPrints", inPlace := ["math.archTrunc", "math.Float64bits", "math.Float64frombits", "internal/abi.NoEscape", "internal/bytealg.MakeNoZero", "internal/bytealg.IndexByteString", "internal/bytealg.IndexString", "internal/bytealg.CountString"], unfollowed := true, recurses := true, named := ["punnet/script.deeds", "punnet/script.moves", "internal/bytealg.MaxLen", "punnet/script.lenses", "punnet/script.added", "unicode/utf8.first", "unicode/utf8.acceptRanges"], plainKeys := false, apart := false, laid := [("unicode/utf8.acceptRanges", laid_unicode_utf8_acceptRanges), ("punnet/script.deeds", laid_punnet_script_deeds), ("punnet/script.moves", laid_punnet_script_moves), ("punnet/script.lenses", laid_punnet_script_lenses), ("punnet/script.added", laid_punnet_script_added), ("unicode/utf8.first", laid_unicode_utf8_first)], narrowed := true }
def ScriptPrintsUptoSaid : Prop := scriptPrintsUptoRow.holds Tryz.pinned (OpenSpec.upto scriptPrintsSpec)

end Rows
end Go.Proofs.YtdfbohaohjaloaaGreatDoor
